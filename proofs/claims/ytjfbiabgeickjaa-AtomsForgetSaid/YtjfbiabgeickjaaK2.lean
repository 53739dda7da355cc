/- cut, Split: walked. Nothing of it is in this program. Plain laws of trees: balance, order, sizes. Plain laws of join and cut. Plain laws: what the acts do to the pairs. Trees that count: plain. atoms: Len, place, Of, Count: walked. atoms: place, Of: walked. atoms: with: walked. atoms: Add, Drop: walked. atoms: Drop: walked. What a table of ranges counts: plain. Atoms out of cuts: plain. The document's answers about ranges, in plain words. Keys of ranges; what an act does: plain. atoms: Within: walked. atoms: own, Atom: walked. A tree's pairs, one after the other: each, all: walked. Pairs: walked. atoms: Ranges: walked. -/
import Derived.Test.YtjfbiabgeickjaaPx2
import Derived.Test.YtjfbiabgeickjaaPx3
import Derived.Test.YtjfbiabgeickjaaPx4
import Derived.Test.YtjfbiabgeickjaaPx5
import Derived.Test.YtjfbiabgeickjaaPx6
import Derived.Laws.BitsLemmas
import Derived.RangeFuncNested
import Derived.RangeFuncBound
import Derived.RangeFuncCalls
import Derived.RangeFuncLeaves
import Derived.RangeFuncKeeps
import Derived.Shelf.Abstract
import Derived.WalkKit
import Derived.OwnWalkIn
import Derived.TacticsInMore
import Derived.RangeFuncBox
import Derived.Maps.AppendAt
import Derived.Deep.LoopGhost
import Derived.Test.YtjfbiabgeickjaaK1
/-! ### Tree11 -/
namespace Go.Proofs.Ytjfbiabgeickjaa.H
open Go.RowKit Go.Proofs.Ytjfbiabgeickjaa.P Go.Proofs.YtjfbiabgeickjaaW.PrintWords Go.Proofs.YtjfbiabgeickjaaW.PrintLast Go.Proofs.YtjfbiabgeickjaaW.PrintMore
set_option linter.unusedVariables false
set_option linter.unusedSimpArgs false
def joinT (l : T) (k v : Int) (r : T) : T := joinN (sz l + sz r + 1) l k v r
def cutT (k : Int) : T → T × T
  | .leaf => (.leaf, .leaf)
  | .node l k1 v1 r => if k1 < k then (joinT l k1 v1 (cutT k r).1, (cutT k r).2) else ((cutT k l).1, joinT (cutT k l).2 k1 v1 r)
theorem sz_cut (k : Int) : ∀ t : T, sz (cutT k t).1 + sz (cutT k t).2 = sz t
  | .leaf => rfl
  | .node l k1 v1 r => by
    have h1 := sz_cut k l
    have h2 := sz_cut k r
    unfold cutT joinT
    split
    · dsimp only; rw [sz_join]; simp only [sz]; omega
    · dsimp only; rw [sz_join]; simp only [sz]; omega
set_option maxRecDepth 20000 in
set_option maxHeartbeats 4000000 in
theorem cut_any (k : Int) (t : T) : ∀ (p : Option Addr) (w : World), TreeAt w p t → sz t ≤ 40000 →
    Calls Try.prog 51 #[.pointer p, .int .u64 k] w fun e w' => (∃ x y, e = .returned (.tuple #[.pointer x, .pointer y]) ∧ TreeAt w' x (cutT k t).1 ∧ TreeAt w' y (cutT k t).2) ∧ Below w.heap.size w w' := by
  induction t with
  | leaf =>
    intro p w h hs
    obtain rfl : p = none := h
    go_enter Try.func51, Try.ntmps51
    go_wp2_with fail
    go_ret2
    exact ⟨⟨none, none, rfl, rfl, rfl⟩, Below.refl _ _⟩
  | node l k1 v1 r ihl ihr =>
    intro p w h hs
    obtain ⟨g, pl, pr, rfl, hg, hl, hr⟩ := h
    have HG0 := Aside0.mk hg
    have HL0 := Aside0.mk hl
    have HR0 := Aside0.mk hr
    have HSZ := Aside0.mk (show sz l + sz r + 1 ≤ 40000 by simp only [sz] at hs; omega)
    have IHL := Aside0.mk ihl
    have IHR := Aside0.mk ihr
    have HZL := Aside0.mk (sz_cut k l)
    have HZR := Aside0.mk (sz_cut k r)
    have d0 := (node_cells hg).1
    have d2 := (node_cells hg).2.2.1
    have d3 := (node_cells hg).2.2.2
    clear hg hl hr hs ihl ihr
    go_enter Try.func51, Try.ntmps51
    by_cases c1 : k1 < k
    · have HEV := Aside0.mk (show cutT k (.node l k1 v1 r) = (joinT l k1 v1 (cutT k r).1, (cutT k r).2) from by conv => lhs; unfold cutT; rw [if_pos c1])
      go_wp2_with fail
      refine (IHR.out pr w HR0.out (by have := HSZ.out; omega)).mono ?_
      rintro e w1 ⟨⟨x, y, rfl, hx, hy⟩, hb⟩
      have HX1 := Aside0.mk (hx.below (below_drew (Below.refl _ w1)))
      have HY1 := Aside0.mk (hy.below (below_drew (Below.refl _ w1)))
      have HO1 := Aside0.mk ((HL0.out.below hb).below (below_drew (Below.refl _ w1)))
      have hN : w1.cell? ⟨g, 0, none⟩ = some (.int .u64 k1) ∧ w1.cell? ⟨g, 1, none⟩ = some (.int .i64 v1) ∧ w1.cell? ⟨g, 2, none⟩ = some (.pointer pl) ∧ w1.cell? ⟨g, 3, none⟩ = some (.pointer pr) := node_cells (blk_below HG0.out hb)
      have HBD := Aside0.mk (hb.trans ((below_drew (Below.refl _ w1)).mono hb.size))
      clear hx hy hb d0 d2 d3
      go_wp2_with fail
      refine wp_region_held_drew (S := (fun w' => w'.cell? ⟨g, 0, none⟩ = some (.int .u64 k1) ∧ w'.cell? ⟨g, 1, none⟩ = some (.int .i64 v1) ∧ w'.cell? ⟨g, 2, none⟩ = some (.pointer pl) ∧ w'.cell? ⟨g, 3, none⟩ = some (.pointer pr))) (by kernel_rfl) ?hSa0 (fun hHeld => ?_)
      case hSa0 => first | assumption | go_keep
      refine held_take 0 (some 28) (v := ?va0) rfl rfl (by kernel_rfl) (by kernel_rfl) (by kernel_rfl) (fun _ _ _ h => h) (by rfl) ?ya0 (by assumption) ?_
      case ya0 => ((intro w hSw); (try dsimp only at hSw); go_simp <;> (with_reducible rfl))
      try simp only [Act.put, List.setIfInBounds_toArray, List.set_cons_zero, List.set_cons_succ]
      refine held_take 1 (some 29) (v := ?va1) rfl rfl (by kernel_rfl) (by kernel_rfl) (by kernel_rfl) (fun _ _ _ h => h) (by rfl) ?ya1 (by assumption) ?_
      case ya1 => ((intro w hSw); (try dsimp only at hSw); go_simp <;> (with_reducible rfl))
      try simp only [Act.put, List.setIfInBounds_toArray, List.set_cons_zero, List.set_cons_succ]
      refine held_take 2 (some 30) (v := ?va2) rfl rfl (by kernel_rfl) (by kernel_rfl) (by kernel_rfl) (fun _ _ _ h => h) (by rfl) ?ya2 (by assumption) ?_
      case ya2 => ((intro w hSw); (try dsimp only at hSw); go_simp <;> (with_reducible rfl))
      try simp only [Act.put, List.setIfInBounds_toArray, List.set_cons_zero, List.set_cons_succ]
      refine held_take 3 (some 31) (v := ?va3) rfl rfl (by kernel_rfl) (by kernel_rfl) (by kernel_rfl) (fun _ _ _ h => h) (by rfl) ?ya3 (by assumption) ?_
      case ya3 => ((intro w hSw); (try dsimp only at hSw); go_simp <;> (with_reducible rfl))
      try simp only [Act.put, List.setIfInBounds_toArray, List.set_cons_zero, List.set_cons_succ]
      refine held_take 4 (some 32) (v := ?va4) rfl rfl (by kernel_rfl) (by kernel_rfl) (by kernel_rfl) (fun _ _ _ h => h) (by rfl) ?ya4 (by assumption) ?_
      case ya4 => ((intro w hSw); (try dsimp only at hSw); go_simp <;> (with_reducible rfl))
      try simp only [Act.put, List.setIfInBounds_toArray, List.set_cons_zero, List.set_cons_succ]
      refine held_take 5 (some 33) (v := ?va5) rfl rfl (by kernel_rfl) (by kernel_rfl) (by kernel_rfl) (fun _ _ _ h => h) (by rfl) ?ya5 (by assumption) ?_
      case ya5 => ((intro w hSw); (try dsimp only at hSw); go_simp <;> (with_reducible rfl))
      try simp only [Act.put, List.setIfInBounds_toArray, List.set_cons_zero, List.set_cons_succ]
      refine held_take 6 (some 34) (v := ?va6) rfl rfl (by kernel_rfl) (by kernel_rfl) (by kernel_rfl) (fun _ _ _ h => h) (by rfl) ?ya6 (by assumption) ?_
      case ya6 => ((intro w hSw); (try dsimp only at hSw); go_simp <;> (with_reducible rfl))
      try simp only [Act.put, List.setIfInBounds_toArray, List.set_cons_zero, List.set_cons_succ]
      refine held_take 7 (some 35) (v := ?va7) rfl rfl (by kernel_rfl) (by kernel_rfl) (by kernel_rfl) (fun _ _ _ h => h) (by rfl) ?ya7 (by assumption) ?_
      case ya7 => ((intro w hSw); (try dsimp only at hSw); go_simp <;> (with_reducible rfl))
      try simp only [Act.put, List.setIfInBounds_toArray, List.set_cons_zero, List.set_cons_succ]
      refine held_take 8 (some 36) (v := ?va8) rfl rfl (by kernel_rfl) (by kernel_rfl) (by kernel_rfl) (fun _ _ _ h => h) (by rfl) ?ya8 (by assumption) ?_
      case ya8 => ((intro w hSw); (try dsimp only at hSw); go_simp <;> (with_reducible rfl))
      try simp only [Act.put, List.setIfInBounds_toArray, List.set_cons_zero, List.set_cons_succ]
      refine held_take 10 (some 38) (v := ?va10) rfl rfl (by kernel_rfl) (by kernel_rfl) (by kernel_rfl) (fun _ _ _ h => h) (by rfl) ?ya10 (by assumption) ?_
      case ya10 => ((intro w hSw); (try dsimp only at hSw); go_simp <;> (with_reducible rfl))
      try simp only [Act.put, List.setIfInBounds_toArray, List.set_cons_zero, List.set_cons_succ]
      refine wpAnyH_ready (rs := [9]) (by kernel_rfl) (by simp) ?_
      refine AllReadyH.cons rfl (fun K hK => ?_) AllReadyH.nil
      go_simp
      refine (join_any k1 v1 (sz l + sz (cutT k r).1 + 1) l (cutT k r).1 (by omega) pl x _ HO1.out HX1.out (by have := HSZ.out; have := HZR.out; omega)).mono ?_
      rintro e w5 ⟨⟨p5, rfl, ht5⟩, hb5⟩
      have K5 := cells4_below (by assumption) hb5
      have HT5 := Aside0.mk ht5
      have HY5 := Aside0.mk (HY1.out.below hb5)
      have HB5 := Aside0.mk (HBD.out.trans (hb5.mono HBD.out.size))
      clear ht5 hb5
      refine hK.out _ _ ?hSa10 (fun hHeld => ?_)
      case hSa10 => first | assumption | go_keep
      clear hK K
      try simp only [Act.put, List.setIfInBounds_toArray, List.set_cons_zero, List.set_cons_succ]
      refine held_take 11 (some 4) (v := ?va11) rfl rfl (by kernel_rfl) (by kernel_rfl) (by kernel_rfl) (fun _ _ _ h => h) (by rfl) ?ya11 (by assumption) ?_
      case ya11 => ((intro w hSw); (try dsimp only at hSw); go_simp <;> (with_reducible rfl))
      try simp only [Act.put, List.setIfInBounds_toArray, List.set_cons_zero, List.set_cons_succ]
      refine held_take 12 (some 5) (v := ?va12) rfl rfl (by kernel_rfl) (by kernel_rfl) (by kernel_rfl) (fun _ _ _ h => h) (by rfl) ?ya12 (by assumption) ?_
      case ya12 => ((intro w hSw); (try dsimp only at hSw); go_simp <;> (with_reducible rfl))
      try simp only [Act.put, List.setIfInBounds_toArray, List.set_cons_zero, List.set_cons_succ]
      refine wpAnyH_done (by kernel_rfl) ?_ _
      go_wp2
      go_ret2
      exact ⟨⟨p5, y, rfl, by rw [HEV.out]; exact HT5.out, by rw [HEV.out]; exact HY5.out⟩, HB5.out⟩
    · have HEV := Aside0.mk (show cutT k (.node l k1 v1 r) = ((cutT k l).1, joinT (cutT k l).2 k1 v1 r) from by conv => lhs; unfold cutT; rw [if_neg c1])
      go_wp2_with fail
      refine (IHL.out pl w HL0.out (by have := HSZ.out; omega)).mono ?_
      rintro e w1 ⟨⟨x, y, rfl, hx, hy⟩, hb⟩
      have HX1 := Aside0.mk (hx.below (below_drew (Below.refl _ w1)))
      have HY1 := Aside0.mk (hy.below (below_drew (Below.refl _ w1)))
      have HO1 := Aside0.mk ((HR0.out.below hb).below (below_drew (Below.refl _ w1)))
      have hN : w1.cell? ⟨g, 0, none⟩ = some (.int .u64 k1) ∧ w1.cell? ⟨g, 1, none⟩ = some (.int .i64 v1) ∧ w1.cell? ⟨g, 2, none⟩ = some (.pointer pl) ∧ w1.cell? ⟨g, 3, none⟩ = some (.pointer pr) := node_cells (blk_below HG0.out hb)
      have HBD := Aside0.mk (hb.trans ((below_drew (Below.refl _ w1)).mono hb.size))
      clear hx hy hb d0 d2 d3
      go_wp2_with fail
      refine wp_region_held_drew (S := (fun w' => w'.cell? ⟨g, 0, none⟩ = some (.int .u64 k1) ∧ w'.cell? ⟨g, 1, none⟩ = some (.int .i64 v1) ∧ w'.cell? ⟨g, 2, none⟩ = some (.pointer pl) ∧ w'.cell? ⟨g, 3, none⟩ = some (.pointer pr))) (by kernel_rfl) ?hSb0 (fun hHeld => ?_)
      case hSb0 => first | assumption | go_keep
      refine held_take 0 (some 48) (v := ?vb0) rfl rfl (by kernel_rfl) (by kernel_rfl) (by kernel_rfl) (fun _ _ _ h => h) (by rfl) ?yb0 (by assumption) ?_
      case yb0 => ((intro w hSw); (try dsimp only at hSw); go_simp <;> (with_reducible rfl))
      try simp only [Act.put, List.setIfInBounds_toArray, List.set_cons_zero, List.set_cons_succ]
      refine held_take 1 (some 49) (v := ?vb1) rfl rfl (by kernel_rfl) (by kernel_rfl) (by kernel_rfl) (fun _ _ _ h => h) (by rfl) ?yb1 (by assumption) ?_
      case yb1 => ((intro w hSw); (try dsimp only at hSw); go_simp <;> (with_reducible rfl))
      try simp only [Act.put, List.setIfInBounds_toArray, List.set_cons_zero, List.set_cons_succ]
      refine held_take 2 (some 50) (v := ?vb2) rfl rfl (by kernel_rfl) (by kernel_rfl) (by kernel_rfl) (fun _ _ _ h => h) (by rfl) ?yb2 (by assumption) ?_
      case yb2 => ((intro w hSw); (try dsimp only at hSw); go_simp <;> (with_reducible rfl))
      try simp only [Act.put, List.setIfInBounds_toArray, List.set_cons_zero, List.set_cons_succ]
      refine held_take 3 (some 51) (v := ?vb3) rfl rfl (by kernel_rfl) (by kernel_rfl) (by kernel_rfl) (fun _ _ _ h => h) (by rfl) ?yb3 (by assumption) ?_
      case yb3 => ((intro w hSw); (try dsimp only at hSw); go_simp <;> (with_reducible rfl))
      try simp only [Act.put, List.setIfInBounds_toArray, List.set_cons_zero, List.set_cons_succ]
      refine held_take 4 (some 52) (v := ?vb4) rfl rfl (by kernel_rfl) (by kernel_rfl) (by kernel_rfl) (fun _ _ _ h => h) (by rfl) ?yb4 (by assumption) ?_
      case yb4 => ((intro w hSw); (try dsimp only at hSw); go_simp <;> (with_reducible rfl))
      try simp only [Act.put, List.setIfInBounds_toArray, List.set_cons_zero, List.set_cons_succ]
      refine held_take 5 (some 53) (v := ?vb5) rfl rfl (by kernel_rfl) (by kernel_rfl) (by kernel_rfl) (fun _ _ _ h => h) (by rfl) ?yb5 (by assumption) ?_
      case yb5 => ((intro w hSw); (try dsimp only at hSw); go_simp <;> (with_reducible rfl))
      try simp only [Act.put, List.setIfInBounds_toArray, List.set_cons_zero, List.set_cons_succ]
      refine held_take 6 (some 54) (v := ?vb6) rfl rfl (by kernel_rfl) (by kernel_rfl) (by kernel_rfl) (fun _ _ _ h => h) (by rfl) ?yb6 (by assumption) ?_
      case yb6 => ((intro w hSw); (try dsimp only at hSw); go_simp <;> (with_reducible rfl))
      try simp only [Act.put, List.setIfInBounds_toArray, List.set_cons_zero, List.set_cons_succ]
      refine held_take 7 (some 55) (v := ?vb7) rfl rfl (by kernel_rfl) (by kernel_rfl) (by kernel_rfl) (fun _ _ _ h => h) (by rfl) ?yb7 (by assumption) ?_
      case yb7 => ((intro w hSw); (try dsimp only at hSw); go_simp <;> (with_reducible rfl))
      try simp only [Act.put, List.setIfInBounds_toArray, List.set_cons_zero, List.set_cons_succ]
      refine held_take 8 (some 56) (v := ?vb8) rfl rfl (by kernel_rfl) (by kernel_rfl) (by kernel_rfl) (fun _ _ _ h => h) (by rfl) ?yb8 (by assumption) ?_
      case yb8 => ((intro w hSw); (try dsimp only at hSw); go_simp <;> (with_reducible rfl))
      try simp only [Act.put, List.setIfInBounds_toArray, List.set_cons_zero, List.set_cons_succ]
      refine held_take 9 (some 57) (v := ?vb9) rfl rfl (by kernel_rfl) (by kernel_rfl) (by kernel_rfl) (fun _ _ _ h => h) (by rfl) ?yb9 (by assumption) ?_
      case yb9 => ((intro w hSw); (try dsimp only at hSw); go_simp <;> (with_reducible rfl))
      try simp only [Act.put, List.setIfInBounds_toArray, List.set_cons_zero, List.set_cons_succ]
      refine wpAnyH_ready (rs := [10]) (by kernel_rfl) (by simp) ?_
      refine AllReadyH.cons rfl (fun K hK => ?_) AllReadyH.nil
      go_simp
      refine (join_any k1 v1 (sz (cutT k l).2 + sz r + 1) (cutT k l).2 r (by omega) y pr _ HY1.out HO1.out (by have := HSZ.out; have := HZL.out; omega)).mono ?_
      rintro e w5 ⟨⟨p5, rfl, ht5⟩, hb5⟩
      have K5 := cells4_below (by assumption) hb5
      have HT5 := Aside0.mk ht5
      have HX5 := Aside0.mk (HX1.out.below hb5)
      have HB5 := Aside0.mk (HBD.out.trans (hb5.mono HBD.out.size))
      clear ht5 hb5
      refine hK.out _ _ ?hSb11 (fun hHeld => ?_)
      case hSb11 => first | assumption | go_keep
      clear hK K
      try simp only [Act.put, List.setIfInBounds_toArray, List.set_cons_zero, List.set_cons_succ]
      refine held_take 11 (some 4) (v := ?vb11) rfl rfl (by kernel_rfl) (by kernel_rfl) (by kernel_rfl) (fun _ _ _ h => h) (by rfl) ?yb11 (by assumption) ?_
      case yb11 => ((intro w hSw); (try dsimp only at hSw); go_simp <;> (with_reducible rfl))
      try simp only [Act.put, List.setIfInBounds_toArray, List.set_cons_zero, List.set_cons_succ]
      refine held_take 12 (some 5) (v := ?vb12) rfl rfl (by kernel_rfl) (by kernel_rfl) (by kernel_rfl) (fun _ _ _ h => h) (by rfl) ?yb12 (by assumption) ?_
      case yb12 => ((intro w hSw); (try dsimp only at hSw); go_simp <;> (with_reducible rfl))
      try simp only [Act.put, List.setIfInBounds_toArray, List.set_cons_zero, List.set_cons_succ]
      refine wpAnyH_done (by kernel_rfl) ?_ _
      go_wp2
      go_ret2
      exact ⟨⟨x, p5, rfl, by rw [HEV.out]; exact HX5.out, by rw [HEV.out]; exact HT5.out⟩, HB5.out⟩
set_option maxRecDepth 20000 in
set_option maxHeartbeats 1600000 in
theorem split_any (P : Option Addr) (k : Int) (t : T) (w : World) (h : RootAt w P t) (hs : sz t ≤ 40000) :
    Calls Try.prog 46 #[.pointer P, .int .u64 k] w fun e w' => (∃ x y, e = .returned (.tuple #[.pointer (some ⟨x, 0, none⟩), .pointer (some ⟨y, 0, none⟩)]) ∧ RootAt w' (some ⟨x, 0, none⟩) (cutT k t).1 ∧ RootAt w' (some ⟨y, 0, none⟩) (cutT k t).2) ∧ Below w.heap.size w w' := by
  have HTP := Aside0.mk (top_any P t w h)
  clear h
  go_enter Try.func46, Try.ntmps46
  go_wp2_with fail
  refine HTP.out.mono ?_
  rintro e w2 ⟨⟨p, rfl, ht⟩, rfl⟩
  have hc := cut_any k t p w2 ht hs
  clear ht
  go_wp2_with fail
  refine hc.mono ?_
  rintro e w3 ⟨⟨x, y, rfl, hx, hy⟩, hb⟩
  have HX := Aside0.mk hx
  have HY := Aside0.mk hy
  have HB := Aside0.mk hb
  clear hx hy hb hc
  go_wp2_with fail
  have hb1 : Below w3.heap.size w3 (w3.alloc (.cells #[.pointer x] 84)) := (Below.refl _ _).alloc (Nat.le_refl _) _
  have hb2 : Below (w3.alloc (.cells #[.pointer x] 84)).heap.size (w3.alloc (.cells #[.pointer x] 84)) ((w3.alloc (.cells #[.pointer x] 84)).alloc (.cells #[.pointer y] 84)) := (Below.refl _ _).alloc (Nat.le_refl _) _
  have hsz : (w3.alloc (.cells #[.pointer x] 84)).heap.size = w3.heap.size + 1 := by simp
  go_ret2
  refine ⟨⟨_, _, rfl, .inr ⟨_, x, rfl, blk_below (blk_new w3 _) hb2, (HX.out.below hb1).below hb2⟩, .inr ⟨_, y, rfl, ?_, (HY.out.below hb1).below hb2⟩⟩, (HB.out.trans (hb1.mono HB.out.size)).trans (hb2.mono (Nat.le_trans HB.out.size (by rw [hsz]; omega)))⟩
  have := blk_new (w3.alloc (.cells #[.pointer x] 84)) (.cells #[.pointer y] 84)
  rw [hsz] at this
  exact this
end Go.Proofs.Ytjfbiabgeickjaa.H
/-! ### TreeB -/
namespace Go.Proofs.Ytjfbiabgeickjaa.H
open Go.RowKit Go.Proofs.Ytjfbiabgeickjaa.P Go.Proofs.YtjfbiabgeickjaaW.PrintWords Go.Proofs.YtjfbiabgeickjaaW.PrintLast Go.Proofs.YtjfbiabgeickjaaW.PrintMore
set_option linter.unusedVariables false
set_option linter.unusedSimpArgs false
/-! ### balance -/
def bal : T → Prop
  | .leaf => True
  | .node l _ _ r => bal l ∧ bal r ∧ ht l ≤ ht r + 1 ∧ ht r ≤ ht l + 1
theorem bal_even (l : T) (k v : Int) (r : T) (hl : bal l) (hr : bal r) (h1 : ht l ≤ ht r + 2) (h2 : ht r ≤ ht l + 2) :
    bal (evenT l k v r) ∧ ht (evenT l k v r) ≤ 1 + max (ht l) (ht r) ∧ max (ht l) (ht r) ≤ ht (evenT l k v r) ∧ (ht l ≤ ht r + 1 → ht r ≤ ht l + 1 → ht (evenT l k v r) = 1 + max (ht l) (ht r)) := by
  unfold evenT
  split
  · rename_i hc
    cases l with
    | leaf => simp [ht] at hc
    | node ll lk lv lr =>
      obtain ⟨b1, b2, b3, b4⟩ := hl
      simp only [ht] at h1 h2 hc
      dsimp only
      split
      · refine ⟨⟨b1, ⟨b2, hr, by omega, by omega⟩, by simp only [ht]; omega, by simp only [ht]; omega⟩, by simp only [ht]; omega, by simp only [ht]; omega, fun h3 h4 => by simp only [ht] at h3 h4 ⊢; omega⟩
      · cases lr with
        | leaf => rename_i hn; simp [ht] at hn
        | node m1 mk mv m2 =>
          obtain ⟨c1, c2, c3, c4⟩ := b2
          simp only [ht] at *
          refine ⟨⟨⟨b1, c1, by omega, by omega⟩, ⟨c2, hr, by omega, by omega⟩, by simp only [ht]; omega, by simp only [ht]; omega⟩, by omega, by omega, fun h3 h4 => by omega⟩
  · rename_i hc
    split
    · rename_i hd
      cases r with
      | leaf => simp [ht] at hd
      | node rl rk rv rr =>
        obtain ⟨b1, b2, b3, b4⟩ := hr
        simp only [ht] at h1 h2 hd hc
        dsimp only
        split
        · refine ⟨⟨⟨hl, b1, by omega, by omega⟩, b2, by simp only [ht]; omega, by simp only [ht]; omega⟩, by simp only [ht]; omega, by simp only [ht]; omega, fun h3 h4 => by simp only [ht] at h3 h4 ⊢; omega⟩
        · cases rl with
          | leaf => rename_i hn; simp [ht] at hn
          | node m1 mk mv m2 =>
            obtain ⟨c1, c2, c3, c4⟩ := b1
            simp only [ht] at *
            refine ⟨⟨⟨hl, c1, by omega, by omega⟩, ⟨c2, b2, by omega, by omega⟩, by simp only [ht]; omega, by simp only [ht]; omega⟩, by omega, by omega, fun h3 h4 => by omega⟩
    · refine ⟨⟨hl, hr, by omega, by omega⟩, by simp only [ht]; omega, by simp only [ht]; omega, fun _ _ => by simp only [ht]⟩
theorem bal_with (k v : Int) : ∀ t : T, bal t → bal (withT k v t) ∧ (ht (withT k v t) = ht t ∨ ht (withT k v t) = ht t + 1)
  | .leaf, _ => ⟨⟨trivial, trivial, Nat.zero_le _, Nat.zero_le _⟩, .inr rfl⟩
  | .node l k1 v1 r, ⟨b1, b2, b3, b4⟩ => by
    have il := bal_with k v l b1
    have ir := bal_with k v r b2
    unfold withT
    split
    · have h := bal_even (withT k v l) k1 v1 r il.1 b2 (by omega) (by omega)
      refine ⟨h.1, ?_⟩
      simp only [ht]
      by_cases c : ht (withT k v l) ≤ ht r + 1
      · have := h.2.2.2 c (by omega); omega
      · omega
    · split
      · have h := bal_even l k1 v1 (withT k v r) b1 ir.1 (by omega) (by omega)
        refine ⟨h.1, ?_⟩
        simp only [ht]
        by_cases c : ht (withT k v r) ≤ ht l + 1
        · have := h.2.2.2 (by omega) c; omega
        · omega
      · exact ⟨⟨b1, b2, b3, b4⟩, .inl rfl⟩
def minN : Nat → Nat
  | 0 => 0
  | 1 => 1
  | n + 2 => 1 + minN (n + 1) + minN n
theorem minN_le : ∀ n, minN n ≤ minN (n + 1)
  | 0 => by decide
  | 1 => by decide
  | n + 2 => by
    have h1 := minN_le n
    have h2 : minN (n + 1) ≤ minN (n + 2) := minN_le (n + 1)
    show 1 + minN (n + 1) + minN n ≤ 1 + minN (n + 2) + minN (n + 1)
    omega
theorem minN_mono {m n : Nat} (h : m ≤ n) : minN m ≤ minN n := by
  induction h with
  | refl => exact Nat.le_refl _
  | step _ ih => exact Nat.le_trans ih (minN_le _)
theorem bal_size : ∀ t : T, bal t → minN (ht t) ≤ sz t
  | .leaf, _ => Nat.le_refl _
  | .node l k v r, ⟨b1, b2, b3, b4⟩ => by
    have h1 := bal_size l b1
    have h2 := bal_size r b2
    simp only [ht, sz]
    have key : ∀ a b : Nat, a ≤ b → b ≤ a + 1 → minN (1 + b) ≤ 1 + minN b + minN a := by
      intro a b h3 h4
      rcases Nat.lt_or_ge a b with h5 | h5
      · obtain rfl : b = a + 1 := by omega
        rw [show 1 + (a + 1) = a + 2 by omega]
        exact Nat.le_refl _
      · obtain rfl : a = b := by omega
        cases a with
        | zero => decide
        | succ n =>
          rw [show 1 + (n + 1) = n + 2 by omega]
          show 1 + minN (n + 1) + minN n ≤ _
          have := minN_le n
          omega
    rcases Nat.le_total (ht l) (ht r) with h | h
    · rw [Nat.max_eq_right h]
      have := key _ _ h b4
      omega
    · rw [Nat.max_eq_left h]
      have := key _ _ h b3
      omega
theorem low (t : T) (hb : bal t) (hs : sz t ≤ 1024) : ht t ≤ 17 := by
  rcases Nat.lt_or_ge (ht t) 18 with h | h
  · omega
  · have h1 := minN_mono h
    have h2 := bal_size t hb
    have h3 : minN 18 = 6764 := by decide
    omega
/-! ### order -/
theorem toL_even (l : T) (k v : Int) (r : T) : toL (evenT l k v r) = toL l ++ (k, v) :: toL r := by
  unfold evenT
  split
  · split
    · rfl
    · split
      · simp [toL]
      · split
        · rfl
        · simp [toL]
  · split
    · split
      · rfl
      · split
        · simp [toL]
        · split
          · rfl
          · simp [toL]
    · rfl
def srt (t : T) : Prop := (toL t).Pairwise fun a b => a.1 < b.1
theorem srt_node {l : T} {k v : Int} {r : T} (h : srt (.node l k v r)) : srt l ∧ srt r ∧ (∀ a ∈ toL l, a.1 < k) ∧ (∀ b ∈ toL r, k < b.1) := by
  unfold srt at h
  rw [toL, List.pairwise_append] at h
  obtain ⟨h1, h2, h3⟩ := h
  rw [List.pairwise_cons] at h2
  exact ⟨h1, h2.2, fun a ha => h3 a ha _ List.mem_cons_self, fun b hb => h2.1 b hb⟩
theorem get_iff (k v : Int) : ∀ t : T, srt t → (getT k t = some v ↔ (k, v) ∈ toL t)
  | .leaf, _ => by simp [getT, toL]
  | .node l k1 v1 r, h => by
    obtain ⟨h1, h2, h3, h4⟩ := srt_node h
    have il := get_iff k v l h1
    have ir := get_iff k v r h2
    unfold getT
    rw [toL, List.mem_append, List.mem_cons]
    split
    · rename_i c
      rw [il]
      exact ⟨.inl, fun o => o.elim id fun o => o.elim (fun e => by cases e; omega) fun o => by have := h4 _ o; simp at this; omega⟩
    · split
      · rename_i c
        rw [ir]
        exact ⟨fun o => .inr (.inr o), fun o => o.elim (fun o => by have := h3 _ o; simp at this; omega) fun o => o.elim (fun e => by cases e; omega) id⟩
      · have e : k = k1 := by omega
        subst e
        constructor
        · intro e; cases e; exact .inr (.inl rfl)
        · rintro (o | o | o)
          · have := h3 _ o; simp at this
          · cases o; rfl
          · have := h4 _ o; simp at this
theorem has_iff (k : Int) (t : T) (h : srt t) : hasT k t = true ↔ ∃ v, (k, v) ∈ toL t := by
  rw [← get_has, Option.isSome_iff_exists]
  exact exists_congr fun v => get_iff k v t h
/-- A pair is laid among others. -/
theorem mem_with (k v : Int) : ∀ t : T, srt t → srt (withT k v t) ∧ ∀ a b, (a, b) ∈ toL (withT k v t) ↔ (a = k ∧ b = v) ∨ (a ≠ k ∧ (a, b) ∈ toL t)
  | .leaf, _ => by
    refine ⟨by simp [srt, withT, toL], fun a b => ?_⟩
    simp [withT, toL]
  | .node l k1 v1 r, h => by
    obtain ⟨h1, h2, h3, h4⟩ := srt_node h
    obtain ⟨sl, ml⟩ := mem_with k v l h1
    obtain ⟨sr, mr⟩ := mem_with k v r h2
    unfold withT
    split
    · rename_i c
      refine ⟨?_, fun a b => ?_⟩
      · unfold srt
        rw [toL_even, List.pairwise_append, List.pairwise_cons]
        refine ⟨sl, ⟨fun b hb => h4 b hb, h2⟩, fun a ha b hb => ?_⟩
        have ha1 : a.1 < k1 := by
          rcases (ml a.1 a.2).1 ha with ⟨e, _⟩ | ⟨_, o⟩
          · omega
          · exact h3 _ o
        rw [List.mem_cons] at hb
        rcases hb with rfl | hb
        · exact ha1
        · have := h4 b hb; omega
      · rw [toL_even, List.mem_append, List.mem_cons, ml, toL, List.mem_append, List.mem_cons]
        constructor
        · rintro ((o | o) | o | o)
          · exact .inl o
          · exact .inr ⟨o.1, .inl o.2⟩
          · cases o; exact .inr ⟨by omega, .inr (.inl rfl)⟩
          · exact .inr ⟨by have := h4 _ o; simp at this; omega, .inr (.inr o)⟩
        · rintro (o | ⟨o1, o | o | o⟩)
          · exact .inl (.inl o)
          · exact .inl (.inr ⟨o1, o⟩)
          · exact .inr (.inl o)
          · exact .inr (.inr o)
    · split
      · rename_i c
        refine ⟨?_, fun a b => ?_⟩
        · unfold srt
          rw [toL_even, List.pairwise_append, List.pairwise_cons]
          have hr1 : ∀ b ∈ toL (withT k v r), k1 < b.1 := fun b hb => by
            rcases (mr b.1 b.2).1 hb with ⟨e, _⟩ | ⟨_, o⟩
            · omega
            · exact h4 _ o
          refine ⟨h1, ⟨hr1, sr⟩, fun a ha b hb => ?_⟩
          rw [List.mem_cons] at hb
          rcases hb with rfl | hb
          · exact h3 a ha
          · have := h3 a ha; have := hr1 b hb; omega
        · rw [toL_even, List.mem_append, List.mem_cons, mr, toL, List.mem_append, List.mem_cons]
          constructor
          · rintro (o | o | o | o)
            · exact .inr ⟨by have := h3 _ o; simp at this; omega, .inl o⟩
            · cases o; exact .inr ⟨by omega, .inr (.inl rfl)⟩
            · exact .inl o
            · exact .inr ⟨o.1, .inr (.inr o.2)⟩
          · rintro (o | ⟨o1, o | o | o⟩)
            · exact .inr (.inr (.inl o))
            · exact .inl o
            · exact .inr (.inl o)
            · exact .inr (.inr (.inr ⟨o1, o⟩))
      · have e : k = k1 := by omega
        subst e
        refine ⟨?_, fun a b => ?_⟩
        · unfold srt
          rw [toL, List.pairwise_append, List.pairwise_cons]
          refine ⟨h1, ⟨fun b hb => h4 b hb, h2⟩, fun a ha b hb => ?_⟩
          rw [List.mem_cons] at hb
          rcases hb with rfl | hb
          · exact h3 a ha
          · have := h3 a ha; have := h4 b hb; omega
        · rw [toL, List.mem_append, List.mem_cons, toL, List.mem_append, List.mem_cons]
          constructor
          · rintro (o | o | o)
            · exact .inr ⟨by have := h3 _ o; simp at this; omega, .inl o⟩
            · cases o; exact .inl ⟨rfl, rfl⟩
            · exact .inr ⟨by have := h4 _ o; simp at this; omega, .inr (.inr o)⟩
          · rintro (⟨rfl, rfl⟩ | ⟨o1, o | o | o⟩)
            · exact .inr (.inl rfl)
            · exact .inl o
            · cases o; exact absurd rfl o1
            · exact .inr (.inr o)
theorem sz_with_eq (k v : Int) : ∀ t : T, sz (withT k v t) = sz t + if hasT k t then 0 else 1
  | .leaf => rfl
  | .node l k1 v1 r => by
    have il := sz_with_eq k v l
    have ir := sz_with_eq k v r
    unfold withT hasT
    split
    · rw [sz_even, il]; simp only [sz]; omega
    · split
      · rw [sz_even, ir]; simp only [sz]; omega
      · simp [sz]
theorem toL_least : ∀ (l : T) (k v : Int) (r : T), toL (.node l k v r) = (leastT (.node l k v r)).1 :: toL (leastT (.node l k v r)).2
  | .leaf, k, v, r => rfl
  | .node ll lk lv lr, k, v, r => by
    have ih := toL_least ll lk lv lr
    rw [leastT, toL_even, toL, ih]
    rfl
theorem toL_without (k : Int) : ∀ t : T, (toL (withoutT k t)).Sublist (toL t) ∧ (hasT k t = true → sz (withoutT k t) + 1 = sz t)
  | .leaf => ⟨List.Sublist.refl _, fun h => by cases h⟩
  | .node l k1 v1 r => by
    have il := toL_without k l
    have ir := toL_without k r
    unfold withoutT hasT
    split
    · rw [toL_even, toL, sz_even]
      exact ⟨il.1.append (List.Sublist.refl _), fun h => by have := il.2 h; simp only [sz]; omega⟩
    · split
      · rw [toL_even, toL, sz_even]
        exact ⟨(List.Sublist.refl _).append (ir.1.cons_cons _), fun h => by have := ir.2 h; simp only [sz]; omega⟩
      · cases r with
        | leaf =>
          refine ⟨?_, fun _ => by simp only [sz]; omega⟩
          rw [toL]
          exact List.sublist_append_left _ _
        | node rl rk rv rr =>
          have h1 := toL_least rl rk rv rr
          have h2 := congrArg List.length h1
          rw [List.length_cons, toL_len, toL_len] at h2
          dsimp only
          rw [toL_even, sz_even, toL]
          refine ⟨?_, fun _ => by simp only [sz] at h2 ⊢; omega⟩
          rw [show ((leastT (.node rl rk rv rr)).1.1, (leastT (.node rl rk rv rr)).1.2) = (leastT (.node rl rk rv rr)).1 from rfl, ← h1]
          exact (List.Sublist.refl _).append (List.sublist_cons_self _ _)
end Go.Proofs.Ytjfbiabgeickjaa.H
/-! ### TreeE -/
namespace Go.Proofs.Ytjfbiabgeickjaa.H
open Go.RowKit Go.Proofs.Ytjfbiabgeickjaa.P Go.Proofs.YtjfbiabgeickjaaW.PrintWords Go.Proofs.YtjfbiabgeickjaaW.PrintLast Go.Proofs.YtjfbiabgeickjaaW.PrintMore
set_option linter.unusedVariables false
set_option linter.unusedSimpArgs false
theorem toL_joinN (k v : Int) : ∀ (n : Nat) (l r : T), toL (joinN n l k v r) = toL l ++ (k, v) :: toL r
  | 0, l, r => rfl
  | n + 1, l, r => by
    unfold joinN
    split
    · cases l with
      | leaf => rfl
      | node ll lk lv lr => dsimp only; rw [toL_even, toL_joinN k v n lr r, toL]; simp
    · split
      · cases r with
        | leaf => rfl
        | node rl rk rv rr => dsimp only; rw [toL_even, toL_joinN k v n l rl, toL]; simp
      · rfl
theorem toL_join (l : T) (k v : Int) (r : T) : toL (joinT l k v r) = toL l ++ (k, v) :: toL r := toL_joinN k v _ l r
theorem bal_joinN (k v : Int) : ∀ (n : Nat) (l r : T), sz l + sz r < n → bal l → bal r → bal (joinN n l k v r) ∧ max (ht l) (ht r) ≤ ht (joinN n l k v r) ∧ ht (joinN n l k v r) ≤ 1 + max (ht l) (ht r)
  | 0, l, r, h, _, _ => absurd h (Nat.not_lt_zero _)
  | n + 1, l, r, hn, bl, br => by
    unfold joinN
    split
    · rename_i hc
      cases l with
      | leaf => simp [ht] at hc
      | node ll lk lv lr =>
        obtain ⟨b1, b2, b3, b4⟩ := bl
        have ih := bal_joinN k v n lr r (by simp only [sz] at hn; omega) b2 br
        simp only [ht] at hc ⊢
        have h := bal_even ll lk lv (joinN n lr k v r) b1 ih.1 (by omega) (by omega)
        refine ⟨h.1, ?_, ?_⟩
        · by_cases c : ht ll ≤ ht (joinN n lr k v r) + 1 ∧ ht (joinN n lr k v r) ≤ ht ll + 1
          · have := h.2.2.2 c.1 c.2; omega
          · omega
        · by_cases c : ht ll ≤ ht (joinN n lr k v r) + 1 ∧ ht (joinN n lr k v r) ≤ ht ll + 1
          · have := h.2.2.2 c.1 c.2; omega
          · omega
    · rename_i hc
      split
      · rename_i hd
        cases r with
        | leaf => simp [ht] at hd
        | node rl rk rv rr =>
          obtain ⟨b1, b2, b3, b4⟩ := br
          have ih := bal_joinN k v n l rl (by simp only [sz] at hn; omega) bl b1
          simp only [ht] at hd hc ⊢
          have h := bal_even (joinN n l k v rl) rk rv rr ih.1 b2 (by omega) (by omega)
          refine ⟨h.1, ?_, ?_⟩
          · by_cases c : ht (joinN n l k v rl) ≤ ht rr + 1 ∧ ht rr ≤ ht (joinN n l k v rl) + 1
            · have := h.2.2.2 c.1 c.2; omega
            · omega
          · by_cases c : ht (joinN n l k v rl) ≤ ht rr + 1 ∧ ht rr ≤ ht (joinN n l k v rl) + 1
            · have := h.2.2.2 c.1 c.2; omega
            · omega
      · refine ⟨⟨bl, br, by omega, by omega⟩, by simp only [ht]; omega, by simp only [ht]; omega⟩
theorem bal_join (l : T) (k v : Int) (r : T) (hl : bal l) (hr : bal r) : bal (joinT l k v r) := (bal_joinN k v _ l r (by omega) hl hr).1
theorem bal_cut (k : Int) : ∀ t : T, bal t → bal (cutT k t).1 ∧ bal (cutT k t).2
  | .leaf, _ => ⟨trivial, trivial⟩
  | .node l k1 v1 r, ⟨b1, b2, _, _⟩ => by
    have h1 := bal_cut k l b1
    have h2 := bal_cut k r b2
    unfold cutT
    split
    · exact ⟨bal_join _ _ _ _ b1 h2.1, h2.2⟩
    · exact ⟨h1.1, bal_join _ _ _ _ h1.2 b2⟩
theorem toL_cut (k : Int) : ∀ t : T, srt t → toL (cutT k t).1 = (toL t).filter (fun p => decide (p.1 < k)) ∧ toL (cutT k t).2 = (toL t).filter fun p => !decide (p.1 < k)
  | .leaf, _ => ⟨rfl, rfl⟩
  | .node l k1 v1 r, h => by
    obtain ⟨h1, h2, h3, h4⟩ := srt_node h
    have il := toL_cut k l h1
    have ir := toL_cut k r h2
    unfold cutT
    rw [toL, List.filter_append, List.filter_append, List.filter_cons, List.filter_cons]
    split
    · rename_i c
      have e1 : (toL l).filter (fun p => decide (p.1 < k)) = toL l := List.filter_eq_self.2 fun a ha => by have := h3 a ha; simp; omega
      have e2 : (toL l).filter (fun p => !decide (p.1 < k)) = [] := List.filter_eq_nil_iff.2 fun a ha => by have := h3 a ha; simp; omega
      dsimp only
      rw [toL_join, ir.1, ir.2, e1, e2]
      simp [c]
    · rename_i c
      have e1 : (toL r).filter (fun p => decide (p.1 < k)) = [] := List.filter_eq_nil_iff.2 fun a ha => by have := h4 a ha; simp; omega
      have e2 : (toL r).filter (fun p => !decide (p.1 < k)) = toL r := List.filter_eq_self.2 fun a ha => by have := h4 a ha; simp; omega
      dsimp only
      rw [toL_join, il.1, il.2, e1, e2]
      simp [c]
theorem bal_least : ∀ t : T, bal t → bal (leastT t).2 ∧ ht (leastT t).2 ≤ ht t ∧ ht t ≤ ht (leastT t).2 + 1
  | .leaf, _ => ⟨trivial, Nat.le_refl _, Nat.zero_le _⟩
  | .node .leaf k v r, ⟨_, b2, _, b4⟩ => by
    refine ⟨b2, ?_, ?_⟩ <;> simp only [leastT, ht] at * <;> omega
  | .node (.node ll lk lv lr) k v r, ⟨b1, b2, b3, b4⟩ => by
    have ih := bal_least (.node ll lk lv lr) b1
    rw [leastT]
    generalize T.node ll lk lv lr = l at *
    have h := bal_even (leastT l).2 k v r ih.1 b2 (by omega) (by omega)
    refine ⟨h.1, ?_, ?_⟩
    · simp only [ht]
      by_cases c : ht (leastT l).2 ≤ ht r + 1 ∧ ht r ≤ ht (leastT l).2 + 1
      · have := h.2.2.2 c.1 c.2; omega
      · omega
    · simp only [ht]
      by_cases c : ht (leastT l).2 ≤ ht r + 1 ∧ ht r ≤ ht (leastT l).2 + 1
      · have := h.2.2.2 c.1 c.2; omega
      · omega
theorem bal_without (k : Int) : ∀ t : T, bal t → bal (withoutT k t) ∧ ht (withoutT k t) ≤ ht t ∧ ht t ≤ ht (withoutT k t) + 1
  | .leaf, _ => ⟨trivial, Nat.le_refl _, Nat.zero_le _⟩
  | .node l k1 v1 r, ⟨b1, b2, b3, b4⟩ => by
    have il := bal_without k l b1
    have ir := bal_without k r b2
    unfold withoutT
    split
    · have h := bal_even (withoutT k l) k1 v1 r il.1 b2 (by omega) (by omega)
      simp only [ht]
      by_cases c : ht (withoutT k l) ≤ ht r + 1 ∧ ht r ≤ ht (withoutT k l) + 1
      · have := h.2.2.2 c.1 c.2; exact ⟨h.1, by omega, by omega⟩
      · exact ⟨h.1, by omega, by omega⟩
    · split
      · have h := bal_even l k1 v1 (withoutT k r) b1 ir.1 (by omega) (by omega)
        simp only [ht]
        by_cases c : ht l ≤ ht (withoutT k r) + 1 ∧ ht (withoutT k r) ≤ ht l + 1
        · have := h.2.2.2 c.1 c.2; exact ⟨h.1, by omega, by omega⟩
        · exact ⟨h.1, by omega, by omega⟩
      · cases r with
        | leaf =>
          simp only [ht] at b3 b4 ⊢
          exact ⟨b1, by omega, by omega⟩
        | node rl rk rv rr =>
          have hl := bal_least (.node rl rk rv rr) b2
          dsimp only
          generalize T.node rl rk rv rr = r at *
          have h := bal_even l (leastT r).1.1 (leastT r).1.2 (leastT r).2 b1 hl.1 (by omega) (by omega)
          simp only [ht]
          by_cases c : ht l ≤ ht (leastT r).2 + 1 ∧ ht (leastT r).2 ≤ ht l + 1
          · have := h.2.2.2 c.1 c.2; exact ⟨h.1, by omega, by omega⟩
          · exact ⟨h.1, by omega, by omega⟩
end Go.Proofs.Ytjfbiabgeickjaa.H
/-! ### TreeF -/
namespace Go.Proofs.Ytjfbiabgeickjaa.H
open Go.RowKit Go.Proofs.Ytjfbiabgeickjaa.P Go.Proofs.YtjfbiabgeickjaaW.PrintWords Go.Proofs.YtjfbiabgeickjaaW.PrintLast Go.Proofs.YtjfbiabgeickjaaW.PrintMore
set_option linter.unusedVariables false
set_option linter.unusedSimpArgs false
def lowL (k : Int) (L : List (Int × Int)) : List (Int × Int) := L.filter fun p => decide (p.1 < k)
def uppL (k : Int) (L : List (Int × Int)) : List (Int × Int) := L.filter fun p => decide (k < p.1)
theorem lowL_all {k : Int} {L : List (Int × Int)} (h : ∀ a ∈ L, a.1 < k) : lowL k L = L := List.filter_eq_self.2 fun a ha => by have := h a ha; simp; omega
theorem lowL_none {k : Int} {L : List (Int × Int)} (h : ∀ a ∈ L, ¬ a.1 < k) : lowL k L = [] := List.filter_eq_nil_iff.2 fun a ha => by have := h a ha; simp; omega
theorem uppL_all {k : Int} {L : List (Int × Int)} (h : ∀ a ∈ L, k < a.1) : uppL k L = L := List.filter_eq_self.2 fun a ha => by have := h a ha; simp; omega
theorem uppL_none {k : Int} {L : List (Int × Int)} (h : ∀ a ∈ L, ¬ k < a.1) : uppL k L = [] := List.filter_eq_nil_iff.2 fun a ha => by have := h a ha; simp; omega
theorem low_node (k : Int) (l : T) (k1 v1 : Int) (r : T) : lowL k (toL (.node l k1 v1 r)) = lowL k (toL l) ++ ((if k1 < k then [(k1, v1)] else []) ++ lowL k (toL r)) := by
  unfold lowL
  rw [toL, List.filter_append, List.filter_cons]
  by_cases c : k1 < k <;> simp [c]
theorem upp_node (k : Int) (l : T) (k1 v1 : Int) (r : T) : uppL k (toL (.node l k1 v1 r)) = uppL k (toL l) ++ ((if k < k1 then [(k1, v1)] else []) ++ uppL k (toL r)) := by
  unfold uppL
  rw [toL, List.filter_append, List.filter_cons]
  by_cases c : k < k1 <;> simp [c]
theorem toL_with (k v : Int) : ∀ t : T, srt t → toL (withT k v t) = lowL k (toL t) ++ (k, v) :: uppL k (toL t)
  | .leaf, _ => rfl
  | .node l k1 v1 r, h => by
    obtain ⟨h1, h2, h3, h4⟩ := srt_node h
    have il := toL_with k v l h1
    have ir := toL_with k v r h2
    rw [low_node, upp_node]
    unfold withT
    split
    · rename_i c
      rw [toL_even, il, if_neg (by omega), lowL_none (L := toL r) fun a ha => by have := h4 a ha; omega, uppL_all (L := toL r) fun a ha => by have := h4 a ha; omega]
      simp
    · split
      · rename_i c
        rw [toL_even, ir, lowL_all (L := toL l) fun a ha => by have := h3 a ha; omega, uppL_none (L := toL l) fun a ha => by have := h3 a ha; omega]
        simp
      · have e : k = k1 := by omega
        subst e
        rw [toL, lowL_all (L := toL l) fun a ha => h3 a ha, uppL_none (L := toL l) fun a ha => by have := h3 a ha; omega, lowL_none (L := toL r) fun a ha => by have := h4 a ha; omega, uppL_all (L := toL r) fun a ha => h4 a ha]
        simp
theorem toL_drop (k : Int) : ∀ t : T, srt t → hasT k t = true → toL (withoutT k t) = lowL k (toL t) ++ uppL k (toL t)
  | .leaf, _, h => by cases h
  | .node l k1 v1 r, h, hh => by
    obtain ⟨h1, h2, h3, h4⟩ := srt_node h
    have il := toL_drop k l h1
    have ir := toL_drop k r h2
    rw [low_node, upp_node]
    unfold hasT at hh
    unfold withoutT
    split
    · rename_i c
      rw [if_pos c] at hh
      rw [toL_even, il hh, if_neg (by omega), lowL_none (L := toL r) fun a ha => by have := h4 a ha; omega, uppL_all (L := toL r) fun a ha => by have := h4 a ha; omega]
      simp
    · rename_i c0
      rw [if_neg c0] at hh
      split
      · rename_i c
        rw [if_pos c] at hh
        rw [toL_even, ir hh, lowL_all (L := toL l) fun a ha => by have := h3 a ha; omega, uppL_none (L := toL l) fun a ha => by have := h3 a ha; omega]
        simp
      · have e : k = k1 := by omega
        subst e
        rw [lowL_all (L := toL l) fun a ha => h3 a ha, uppL_none (L := toL l) fun a ha => by have := h3 a ha; omega, lowL_none (L := toL r) fun a ha => by have := h4 a ha; omega, uppL_all (L := toL r) fun a ha => h4 a ha]
        cases r with
        | leaf => simp [toL]
        | node rl rk rv rr =>
          dsimp only
          rw [toL_even, ← toL_least rl rk rv rr]
          simp
theorem below_low (k : Int) : ∀ t : T, srt t → belowT k t = (lowL k (toL t)).length
  | .leaf, _ => rfl
  | .node l k1 v1 r, h => by
    obtain ⟨h1, h2, h3, h4⟩ := srt_node h
    have il := below_low k l h1
    have ir := below_low k r h2
    rw [low_node]
    unfold belowT
    split
    · rename_i c
      rw [lowL_all (L := toL l) fun a ha => by have := h3 a ha; omega, List.length_append, List.length_append, toL_len, ir]
      simp only [List.length_cons, List.length_nil]
      omega
    · rename_i c
      rw [lowL_none (L := toL r) fun a ha => by have := h4 a ha; omega, il]
      simp
end Go.Proofs.Ytjfbiabgeickjaa.H
/-! ### AtmP -/
namespace Go.Proofs.Ytjfbiabgeickjaa.H
open Go.RowKit Go.Proofs.Ytjfbiabgeickjaa.P Go.Proofs.YtjfbiabgeickjaaW.PrintWords Go.Proofs.YtjfbiabgeickjaaW.PrintLast Go.Proofs.YtjfbiabgeickjaaW.PrintMore
set_option linter.unusedVariables false
/-- A tree has of each key as many as told; what is none is not there. -/
def Rep (t : T) (c : Int → Int) : Prop := srt t ∧ bal t ∧ ∀ k v, (k, v) ∈ toL t ↔ c k = v ∧ v ≠ 0
theorem rep_leaf : Rep .leaf (fun _ => 0) := by
  refine ⟨List.Pairwise.nil, trivial, fun k v => ?_⟩
  constructor
  · intro h; cases h
  · rintro ⟨h1, h2⟩; exact absurd h1.symm h2
theorem rep_num {t : T} {c : Int → Int} (h : Rep t c) (k : Int) : numT k t = c k := by
  unfold numT
  cases hg : getT k t with
  | some v => exact ((h.2.2 k v).1 ((get_iff k v t h.1).1 hg)).1.symm
  | none =>
    by_cases hc : c k = 0
    · exact hc.symm
    · have := (get_iff k (c k) t h.1).2 ((h.2.2 k (c k)).2 ⟨rfl, hc⟩)
      rw [hg] at this; cases this
theorem rep_has {t : T} {c : Int → Int} (h : Rep t c) (k : Int) : hasT k t = true ↔ c k ≠ 0 := by
  rw [has_iff k t h.1]
  constructor
  · rintro ⟨v, hv⟩
    have := (h.2.2 k v).1 hv
    rw [this.1]; exact this.2
  · intro hc; exact ⟨c k, (h.2.2 k (c k)).2 ⟨rfl, hc⟩⟩
def upd (c : Int → Int) (k by_ : Int) : Int → Int := fun x => c x + if x = k then by_ else 0
theorem mem_low {k a b : Int} {L : List (Int × Int)} : (a, b) ∈ lowL k L ↔ (a, b) ∈ L ∧ a < k := by
  unfold lowL; rw [List.mem_filter]; simp
theorem mem_upp {k a b : Int} {L : List (Int × Int)} : (a, b) ∈ uppL k L ↔ (a, b) ∈ L ∧ k < a := by
  unfold uppL; rw [List.mem_filter]; simp
theorem rep_more {t : T} {c : Int → Int} (h : Rep t c) (k by_ : Int) (hd : c k + by_ = 0 → c k ≠ 0) : Rep (moreT k by_ t) (upd c k by_) := by
  unfold moreT
  rw [rep_num h k]
  by_cases h0 : c k + by_ = 0
  · rw [if_pos h0]
    have hh := (rep_has h k).2 (hd h0)
    refine ⟨h.1.sublist (toL_without k t).1, (bal_without k t h.2.1).1, fun a b => ?_⟩
    rw [toL_drop k t h.1 hh, List.mem_append, mem_low, mem_upp, h.2.2 a b]
    unfold upd
    by_cases e : a = k
    · subst e
      rw [if_pos rfl]
      constructor
      · rintro (⟨_, h2⟩ | ⟨_, h2⟩) <;> omega
      · rintro ⟨h1, h2⟩; omega
    · rw [if_neg e, Int.add_zero]
      constructor
      · rintro (⟨h1, _⟩ | ⟨h1, _⟩) <;> exact h1
      · intro h1
        rcases Int.lt_or_gt_of_ne e with h2 | h2
        · exact .inl ⟨h1, h2⟩
        · exact .inr ⟨h1, h2⟩
  · rw [if_neg h0]
    obtain ⟨hs, hm⟩ := mem_with k (c k + by_) t h.1
    refine ⟨hs, (bal_with k _ t h.2.1).1, fun a b => ?_⟩
    rw [hm a b, h.2.2 a b]
    unfold upd
    by_cases e : a = k
    · subst e
      rw [if_pos rfl]
      constructor
      · rintro (⟨_, h2⟩ | ⟨h1, _⟩)
        · exact ⟨h2.symm, by omega⟩
        · exact absurd rfl h1
      · rintro ⟨h1, h2⟩; exact .inl ⟨rfl, h1.symm⟩
    · rw [if_neg e, Int.add_zero]
      constructor
      · rintro (⟨h1, _⟩ | ⟨_, h2⟩)
        · exact absurd h1 e
        · exact h2
      · intro h1; exact .inr ⟨e, h1⟩
/-- What rises strictly is told by its members. -/
theorem srt_ext : ∀ (L M : List (Int × Int)), (L.Pairwise fun a b => a.1 < b.1) → (M.Pairwise fun a b => a.1 < b.1) → (∀ a b, (a, b) ∈ L ↔ (a, b) ∈ M) → L = M
  | [], [], _, _, _ => rfl
  | [], y :: M, _, _, h => absurd ((h y.1 y.2).2 (List.mem_cons_self ..)) (fun h => by cases h)
  | x :: L, [], _, _, h => absurd ((h x.1 x.2).1 (List.mem_cons_self ..)) (fun h => by cases h)
  | x :: L, y :: M, hL, hM, h => by
    rw [List.pairwise_cons] at hL hM
    have hx := (h x.1 x.2).1 (List.mem_cons_self ..)
    have hy := (h y.1 y.2).2 (List.mem_cons_self ..)
    have exy : x = y := by
      rcases List.mem_cons.1 hx with e | e
      · exact e
      · rcases List.mem_cons.1 hy with e2 | e2
        · exact e2.symm
        · have a1 := hM.1 _ e
          have a2 := hL.1 _ e2
          have a1' : y.1 < x.1 := a1
          have a2' : x.1 < y.1 := a2
          omega
    subst exy
    rw [srt_ext L M hL.2 hM.2 (fun a b => ?_)]
    have hab := h a b
    constructor
    · intro hm
      rcases List.mem_cons.1 (hab.1 (List.mem_cons_of_mem _ hm)) with e | e
      · have a1 := hL.1 _ hm
        rw [← e] at a1
        exact absurd a1 (Int.lt_irrefl _)
      · exact e
    · intro hm
      rcases List.mem_cons.1 (hab.2 (List.mem_cons_of_mem _ hm)) with e | e
      · have a1 := hM.1 _ hm
        rw [← e] at a1
        exact absurd a1 (Int.lt_irrefl _)
      · exact e
theorem rep_eq {t u : T} {c : Int → Int} (h : Rep t c) (g : Rep u c) : toL t = toL u := srt_ext _ _ h.1 g.1 (fun a b => by rw [h.2.2 a b, g.2.2 a b])
end Go.Proofs.Ytjfbiabgeickjaa.H
/-! ### Atm2 -/
namespace Go.Proofs.Ytjfbiabgeickjaa.H
open Go.RowKit Go.Proofs.Ytjfbiabgeickjaa.P Go.Proofs.YtjfbiabgeickjaaW.PrintWords Go.Proofs.YtjfbiabgeickjaaW.PrintLast Go.Proofs.YtjfbiabgeickjaaW.PrintMore
set_option linter.unusedVariables false
set_option linter.unusedSimpArgs false
theorem tlen_any (P : Option Addr) (x : Tab) (w : World) (h : TabAtm w P x) :
    Calls Try.prog 11 #[.pointer P] w fun e w' => e = .returned (.int .i64 (sz x.b : Nat)) ∧ w' = w := by
  have ho := own_some P x w h
  obtain ⟨g, pb, pr, rfl, hg, hb, hr⟩ := h
  have hl := len_any pb x.b w hb
  have x0 := blk_cell hg 0
  clear hg hb hr
  go_enter Try.func11, Try.ntmps11
  go_wp2_with fail
  refine ho.mono ?_
  rintro e w1 ⟨rfl, rfl⟩
  clear ho
  go_wp2_with fail
  refine hl.mono ?_
  rintro e w1 ⟨rfl, rfl⟩
  clear hl
  go_wp2_with fail
  go_ret
  exact ⟨rfl, rfl⟩
theorem cb {W V : World} {a : Addr} {u : Value} (h : W.cell? a = some u) (hb : Below W.heap.size W V) : V.cell? a = some u := by
  have := hb.block a.block (World.block_lt_of_cell? W a h)
  simpa [World.cell?, this] using h
def keyF (f t : Int) : Int := Go.bits .or .u64 (IntKind.u64.wrap ((IntKind.u64.wrap f) * 4294967296)) (IntKind.u64.wrap t)
theorem own_ptr (a : Addr) (w : World) : Calls Try.prog 28 #[.pointer (some a)] w fun e w' => e = .returned (.pointer (some a)) ∧ w' = w := by
  go_enter Try.func28, Try.ntmps28
  go_wp2_with fail
  go_ret
  exact ⟨rfl, rfl⟩
set_option maxRecDepth 20000 in
set_option maxHeartbeats 2000000 in
theorem count_any (P : Option Addr) (x : Tab) (f t : Int) (w : World) (h : TabAtm w P x) :
    Calls Try.prog 13 #[.pointer P, .agg #[.int .u32 f, .int .u32 t]] w fun e w' => e = .returned (.int .i64 (numT (keyF f t) x.r)) ∧ Below w.heap.size w w' := by
  have hu := Try.underlying30
  have hb0 : Below w.heap.size w (w.alloc (.cells #[.int .u32 f, .int .u32 t] 30)) := (Below.refl w.heap.size w).alloc (Nat.le_refl _) _
  have HY := Aside0.mk (blk_new w (.cells #[.int .u32 f, .int .u32 t] 30))
  have h0 := h.below hb0
  have HB0 := Aside0.mk hb0
  have ho := own_some P x _ h0
  clear h
  obtain ⟨g, pb, pr, rfl, hg, hb, hr⟩ := h0
  have HR := Aside0.mk hr
  have x1 := blk_cell hg 1
  have y0 := blk_cell HY.out 0
  have y1 := blk_cell HY.out 1
  clear hg hb hr hb0
  have HKK := Aside0.mk (fun W => atoms_key.calls f t (keyF f t) W rfl)
  generalize keyF f t = kk at *
  go_enter Try.func13, Try.ntmps13
  go_wp2_with fail
  generalize (w.alloc (.cells #[.int .u32 f, .int .u32 t] 30)) = w0 at *
  have hc : w0.cell? ⟨g, 1, none⟩ = some (.pointer pr) ∧ w0.cell? ⟨w.heap.size, 0, none⟩ = some (.int .u32 f) ∧ w0.cell? ⟨w.heap.size, 1, none⟩ = some (.int .u32 t) := ⟨x1, y0, y1⟩
  clear x1 y0 y1 ho HY
  have HCC := Aside0.mk hc
  have HBD := Aside0.mk (below_drew (Below.refl w0.heap.size w0))
  have HKY := Aside0.mk (HKK.out w0.drew)
  go_region_held3 (fun w' => w'.cell? ⟨g, 1, none⟩ = some (.pointer pr) ∧ w'.cell? ⟨w.heap.size, 0, none⟩ = some (.int .u32 f) ∧ w'.cell? ⟨w.heap.size, 1, none⟩ = some (.int .u32 t)) (first | assumption | go_keep) (first
    | (go_at_call 28; refine (own_ptr _ _).mono ?_; rintro e w1 ⟨rfl, rfl⟩)
    | (go_at_call 33; refine HKY.out.mono ?_; rintro e w1 ⟨rfl, hb⟩; have HB1 := Aside0.mk (HBD.out.trans (hb.mono HBD.out.size)); have K1 : w1.cell? ⟨g, 1, none⟩ = some (.pointer pr) ∧ w1.cell? ⟨w.heap.size, 0, none⟩ = some (.int .u32 f) ∧ w1.cell? ⟨w.heap.size, 1, none⟩ = some (.int .u32 t) := ⟨cb HCC.out.1 HB1.out, cb HCC.out.2.1 HB1.out, cb HCC.out.2.2 HB1.out⟩; clear hb)
    | (go_at_call 32; refine (get_any pr kk x.r _ (HR.out.below HB1.out)).mono ?_; rintro e w2 ⟨rfl, rfl⟩))
  go_wp2_with fail
  go_ret
  exact ⟨rfl, HB0.out.trans (HB1.out.mono HB0.out.size)⟩
end Go.Proofs.Ytjfbiabgeickjaa.H
/-! ### Atm3 -/
namespace Go.Proofs.Ytjfbiabgeickjaa.H
open Go.RowKit Go.Proofs.Ytjfbiabgeickjaa.P Go.Proofs.YtjfbiabgeickjaaW.PrintWords Go.Proofs.YtjfbiabgeickjaaW.PrintLast Go.Proofs.YtjfbiabgeickjaaW.PrintMore
set_option linter.unusedVariables false
set_option linter.unusedSimpArgs false
def placeT (k : Int) (t : T) : Nat := sz (cutT k t).1
theorem place_any (P : Option Addr) (x : Tab) (k : Int) (w : World) (h : TabAtm w P x) (hs : sz x.b ≤ 40000) :
    Calls Try.prog 38 #[.pointer P, .int .u64 k] w fun e w' => e = .returned (.int .i64 (placeT k x.b : Nat)) ∧ Below w.heap.size w w' := by
  obtain ⟨g, pb, pr, rfl, hg, hb, hr⟩ := h
  have hsp := split_any pb k x.b w hb hs
  have x0 := blk_cell hg 0
  clear hg hb hr hs
  go_enter Try.func38, Try.ntmps38
  go_wp2_with fail
  refine hsp.mono ?_
  rintro e w1 ⟨⟨xa, ya, rfl, h1, _⟩, hb⟩
  have HB := Aside0.mk hb
  have hl := len_any _ _ w1 h1
  clear hsp hb h1 x0
  rw [show (sz (cutT k x.b).1) = placeT k x.b from rfl] at hl
  go_wp2_with fail
  refine hl.mono ?_
  rintro e w2 ⟨rfl, rfl⟩
  clear hl
  go_wp2_with fail
  go_ret
  exact ⟨rfl, HB.out⟩
theorem of_any (P : Option Addr) (x : Tab) (a : Int) (w : World) (h : TabAtm w P x) (hs : sz x.b ≤ 40000) (h0 : 0 ≤ a) (h1 : a ≤ 4294967295) (hp : placeT (a + 1) x.b ≤ 40000) :
    Calls Try.prog 17 #[.pointer P, .int .u32 a] w fun e w' => e = .returned (.int .i64 ((placeT (a + 1) x.b : Nat) - 1)) ∧ Below w.heap.size w w' := by
  have ho := own_some P x w h
  have hpl := place_any P x (a + 1) w h hs
  obtain ⟨g, pb, pr, rfl, _⟩ := h
  generalize placeT (a + 1) x.b = pl at *
  clear hs
  go_enter Try.func17, Try.ntmps17
  go_wp2_with fail
  refine ho.mono ?_
  rintro e w1 ⟨rfl, rfl⟩
  clear ho
  go_wp2_with fail
  refine hpl.mono ?_
  rintro e w2 ⟨rfl, hb⟩
  have HB := Aside0.mk hb
  clear hpl hb
  go_wp2_with fail
  go_ret
  exact ⟨rfl, HB.out⟩
end Go.Proofs.Ytjfbiabgeickjaa.H
/-! ### Atm4 -/
namespace Go.Proofs.Ytjfbiabgeickjaa.H
open Go.RowKit Go.Proofs.Ytjfbiabgeickjaa.P Go.Proofs.YtjfbiabgeickjaaW.PrintWords Go.Proofs.YtjfbiabgeickjaaW.PrintLast Go.Proofs.YtjfbiabgeickjaaW.PrintMore
set_option linter.unusedVariables false
set_option linter.unusedSimpArgs false
theorem TreeAt.farT {W : World} {h j : Nat} {u : Value} {cs : Array Value} (hh : W.heap[h]? = some (.cells cs 63 (0, 0))) : ∀ {t : T} {p : Option Addr}, TreeAt W p t → TreeAt (W.setCell ⟨h, j, none⟩ u) p t
  | .leaf, _, h1 => h1
  | .node l k v r, _, ⟨g, pl, pr, h1, h2, h3, h4⟩ => by
    have hne : g ≠ h := by
      rintro rfl
      rw [hh] at h2
      injection h2 with h2
      injection h2 with _ h2
      exact absurd h2 (by decide)
    exact ⟨g, pl, pr, h1, blk_far h2 (p := ⟨h, j, none⟩) hne _, h3.farT hh, h4.farT hh⟩
theorem RootAt.farT {W : World} {h j : Nat} {u : Value} {cs : Array Value} (hh : W.heap[h]? = some (.cells cs 63 (0, 0))) {t : T} {P : Option Addr} (hr : RootAt W P t) : RootAt (W.setCell ⟨h, j, none⟩ u) P t := by
  rcases hr with hr | ⟨g, p, h1, h2, h3⟩
  · exact .inl hr
  · have hne : g ≠ h := by
      rintro rfl
      rw [hh] at h2
      injection h2 with h2
      injection h2 with _ h2
      exact absurd h2 (by decide)
    exact .inr ⟨g, p, h1, blk_far h2 (p := ⟨h, j, none⟩) hne _, h3.farT hh⟩
def moreOk (k by_ : Int) (t : T) : Prop := sz t ≤ 40000 ∧ fullT k t = false ∧ (numT k t + by_ = 0 → hasT k t = true) ∧ -100000 ≤ numT k t ∧ numT k t ≤ 100000
def endsOk (by_ : Int) : List Int → T → Prop
  | [], _ => True
  | k :: es, t => moreOk k by_ t ∧ endsOk by_ es (moreT k by_ t)
def endsT (by_ : Int) : List Int → T → T
  | [], t => t
  | k :: es, t => endsT by_ es (moreT k by_ t)
def endsL (f t : Int) : List Int := if t < 4294967295 then [IntKind.u64.wrap f, IntKind.u64.wrap (IntKind.u64.wrap t + 1)] else [IntKind.u64.wrap f]
theorem ends_f (f t : Int) : atoms_ends.f f t = some (endsL f t) := by
  unfold atoms_ends.f endsL
  simp only [Option.bind_some]
  split <;> rfl
def withTab (f t by_ : Int) (x : Tab) : Tab := ⟨endsT by_ (endsL f t) x.b, moreT (keyF f t) by_ x.r, x.n + by_⟩
set_option maxRecDepth 20000 in
set_option maxHeartbeats 4000000 in
theorem with_tab (P : Option Addr) (x : Tab) (f t by_ : Int) (w : World) (h : TabAtm w P x) (h1 : moreOk (keyF f t) by_ x.r) (h2 : endsOk by_ (endsL f t) x.b) (h3 : -100 ≤ by_) (h4 : by_ ≤ 100) (h5 : -100000 ≤ x.n) (h6 : x.n ≤ 100000) :
    Calls Try.prog 29 #[.pointer P, .agg #[.int .u32 f, .int .u32 t], .int .i64 by_] w fun e w' => (∃ g, e = .returned (.pointer g) ∧ TabAtm w' g (withTab f t by_ x)) ∧ Below w.heap.size w w' := by
  have hu := Try.underlying30
  have hb0 : Below w.heap.size w (w.alloc (.cells #[.int .u32 f, .int .u32 t] 30)) := (Below.refl w.heap.size w).alloc (Nat.le_refl _) _
  have HY := Aside0.mk (blk_new w (.cells #[.int .u32 f, .int .u32 t] 30))
  have h0 := h.below hb0
  have HB0 := Aside0.mk hb0
  clear h
  obtain ⟨g, pb, pr, rfl, hg, hb, hr⟩ := h0
  have HPB := Aside0.mk hb
  have HPR := Aside0.mk hr
  have HM := Aside0.mk h1
  have HE := Aside0.mk h2
  have x0 := blk_cell hg 0
  have x1 := blk_cell hg 1
  have x2 := blk_cell hg 2
  have y0 := blk_cell HY.out 0
  have y1 := blk_cell HY.out 1
  have HKK := Aside0.mk (fun W => atoms_key.calls f t (keyF f t) W rfl)
  have HW := Aside0.mk (show withTab f t by_ x = ⟨endsT by_ (endsL f t) x.b, moreT (keyF f t) by_ x.r, x.n + by_⟩ from rfl)
  generalize withTab f t by_ x = wt at *
  generalize keyF f t = kk at *
  generalize hxn : x.n = xn at *
  clear hg hb hr hb0 h1 h2 hxn
  go_enter Try.func29, Try.ntmps29
  go_wp2_with fail
  generalize (w.alloc (.cells #[.int .u32 f, .int .u32 t] 30)) = w0 at *
  have hc : w0.cell? ⟨g, 0, none⟩ = some (.pointer pb) ∧ w0.cell? ⟨g, 1, none⟩ = some (.pointer pr) ∧ w0.cell? ⟨g, 2, none⟩ = some (.int .i64 xn) ∧ w0.cell? ⟨w.heap.size, 0, none⟩ = some (.int .u32 f) ∧ w0.cell? ⟨w.heap.size, 1, none⟩ = some (.int .u32 t) := ⟨x0, x1, x2, y0, y1⟩
  clear x0 x1 x2 y0 y1
  have HCC := Aside0.mk hc
  have HBD := Aside0.mk (below_drew (Below.refl w0.heap.size w0))
  have HKY := Aside0.mk (HKK.out w0.drew)
  go_region_held3 (fun w' => w'.cell? ⟨g, 0, none⟩ = some (.pointer pb) ∧ w'.cell? ⟨g, 1, none⟩ = some (.pointer pr) ∧ w'.cell? ⟨g, 2, none⟩ = some (.int .i64 xn) ∧ w'.cell? ⟨w.heap.size, 0, none⟩ = some (.int .u32 f) ∧ w'.cell? ⟨w.heap.size, 1, none⟩ = some (.int .u32 t)) (first | assumption | go_keep) (first
    | (go_at_call 33; refine HKY.out.mono ?_; rintro e w1 ⟨rfl, hb⟩; have HB1 := Aside0.mk (HBD.out.trans (hb.mono HBD.out.size)); have K1 : w1.cell? ⟨g, 0, none⟩ = some (.pointer pb) ∧ w1.cell? ⟨g, 1, none⟩ = some (.pointer pr) ∧ w1.cell? ⟨g, 2, none⟩ = some (.int .i64 xn) ∧ w1.cell? ⟨w.heap.size, 0, none⟩ = some (.int .u32 f) ∧ w1.cell? ⟨w.heap.size, 1, none⟩ = some (.int .u32 t) := ⟨cb HCC.out.1 HB1.out, cb HCC.out.2.1 HB1.out, cb HCC.out.2.2.1 HB1.out, cb HCC.out.2.2.2.1 HB1.out, cb HCC.out.2.2.2.2 HB1.out⟩; clear hb)
    | (go_at_call 43; refine (more_any pr kk by_ x.r _ (HPR.out.below HB1.out) HM.out.1 HM.out.2.1 HM.out.2.2.1 HM.out.2.2.2.1 HM.out.2.2.2.2 h3 h4).mono ?_; rintro e w2 ⟨⟨gr, rfl, hr2⟩, hb⟩; have HB2 := Aside0.mk (HB1.out.trans (hb.mono HB1.out.size)); have HR2 := Aside0.mk hr2; have K2 : w2.cell? ⟨g, 0, none⟩ = some (.pointer pb) ∧ w2.cell? ⟨g, 1, none⟩ = some (.pointer pr) ∧ w2.cell? ⟨g, 2, none⟩ = some (.int .i64 xn) ∧ w2.cell? ⟨w.heap.size, 0, none⟩ = some (.int .u32 f) ∧ w2.cell? ⟨w.heap.size, 1, none⟩ = some (.int .u32 t) := ⟨cb HCC.out.1 HB2.out, cb HCC.out.2.1 HB2.out, cb HCC.out.2.2.1 HB2.out, cb HCC.out.2.2.2.1 HB2.out, cb HCC.out.2.2.2.2 HB2.out⟩; clear hb hr2))
  have hwr : IntKind.i64.wrap (xn + by_) = xn + by_ := by rw [IntKind.wrap_i64]; omega
  rw [hwr]
  have hbn : Below w0.heap.size w0 (w2.alloc (.cells #[.pointer pb, .pointer (some ⟨gr, 0, none⟩), .int .i64 (xn + by_)] 63)) := HB2.out.alloc HB2.out.size _
  have HTB := Aside0.mk (blk_new w2 (.cells #[.pointer pb, .pointer (some ⟨gr, 0, none⟩), .int .i64 (xn + by_)] 63))
  have HR3 := Aside0.mk (HR2.out.below ((Below.refl _ w2).alloc (Nat.le_refl _) (.cells #[.pointer pb, .pointer (some ⟨gr, 0, none⟩), .int .i64 (xn + by_)] 63)))
  have HPB3 := Aside0.mk (HPB.out.below hbn)
  have HB3 := Aside0.mk (HB0.out.trans (hbn.mono HB0.out.size))
  have HGT := Aside0.mk (Nat.le_trans HB0.out.size HB2.out.size)
  have z0 := cb HCC.out.2.2.2.1 hbn
  have z1 := cb HCC.out.2.2.2.2 hbn
  have hen := fun W => atoms_ends.calls f t (endsL f t) W (ends_f f t)
  generalize hgt : w2.heap.size = gt at *
  generalize (w2.alloc (.cells #[.pointer pb, .pointer (some ⟨gr, 0, none⟩), .int .i64 (xn + by_)] 63)) = w3 at *
  have hen := hen w3
  have HEL := Aside0.mk (show (endsL f t).length ≤ 2 from by unfold endsL; split <;> simp)
  generalize endsL f t = es at *
  clear hbn hwr HR2 HPB HB2 HB1 HY HPR HKY HBD HCC hc K1 K2 HB0 HKK HM hgt
  go_wp2_with fail
  refine hen.mono ?_
  rintro e w4 ⟨v0, rfl, hv, hb⟩
  have HB4 := Aside0.mk (HB3.out.trans (hb.mono HB3.out.size))
  have HT4 := Aside0.mk (blk_below HTB.out hb)
  have HPB4 := Aside0.mk (HPB3.out.below hb)
  have HR4 := Aside0.mk (HR3.out.below hb)
  have hgl : gt < w3.heap.size := by
    rcases Nat.lt_or_ge gt w3.heap.size with h | h
    · exact h
    · have := HTB.out
      rw [Array.getElem?_eq_none h] at this
      cases this
  obtain ⟨ad, c5, hv5, hne, hcell⟩ : ∃ (ad : Option Addr) (c5 : Nat), v0 = .slice ad es.length c5 ∧ (∀ i, i < es.length → ∃ a, ad = some a ∧ (a.add i).block ≠ gt) ∧ ∀ i (a : Addr), i < es.length → ad = some a → w4.cell? (a.add i) = some (.int .u64 (rd es (i : Int))) := by
    obtain ⟨inner, hown⟩ := Kd.R_own hv
    obtain ⟨A5, c5, e5, hc5, hC5⟩ := Kd.R_reads hv
    refine ⟨A5, c5, e5, fun i hi => ?_, fun i a hi ha => ?_⟩
    · rcases hown.2 with ⟨_, h0⟩ | ⟨b, cap, cur, e6, hb6, _⟩
      · omega
      · rw [e5] at e6
        injection e6 with e7
        exact ⟨_, e7, by simp only [Addr.add]; split <;> (show b ≠ gt; omega)⟩
    · obtain ⟨ad2, e2, h2⟩ := Kd.at_int hC5 (i : Int) (by omega) (by omega)
      rw [ha] at e2
      cases e2
      rw [Int.toNat_natCast] at h2
      exact h2
  subst hv5
  have HNE := Aside0.mk hne
  have HCL := Aside0.mk hcell
  have HLN := Aside0.mk HEL.out
  clear hen hv hb hne hcell HTB HPB3 HR3 HB3 z0 z1 hgl
  go_wp2_with fail
  go_loopw [33, 9] (fun s33 s9 wr => ∃ (j : Nat) (pb' : Option Addr) (tb : T), s33 = .int .i64 j ∧ j ≤ es.length ∧ Aside0 (endsT by_ (es.drop j) tb = endsT by_ es x.b) ∧ Aside0 (endsOk by_ (es.drop j) tb) ∧ Aside0 (RootAt wr pb' tb) ∧ Aside0 (RootAt wr (some ⟨gr, 0, none⟩) (moreT kk by_ x.r)) ∧ Aside0 (wr.heap[gt]? = some (.cells #[.pointer pb', .pointer (some ⟨gr, 0, none⟩), .int .i64 (xn + by_)] 63 (0, 0))) ∧ Aside0 (∀ i (a : Addr), i < es.length → ad = some a → wr.cell? (a.add i) = some (.int .u64 (rd es (i : Int)))) ∧ Aside0 (Below w.heap.size w wr)) (fun s _ _ => es.length - (intOf s).toNat)
  case atStart => exact ⟨0, pb, x.b, rfl, Nat.zero_le _, ⟨rfl⟩, HE, HPB4, HR4, HT4, HCL, HB4⟩
  case round =>
    clear HPB4 HR4 HT4 HCL HB4 HE
    obtain ⟨j, pb', tb, rfl, hj, HT1, HE, HPB, HR, HTB, HCL, HB⟩ := hrel
    by_cases h1 : j < es.length
    · have h1' : (j : Int) < (es.length : Int) := by omega
      obtain ⟨a, ha, hna⟩ := HNE.out j h1
      have hj2 : j < 2 := Nat.lt_of_lt_of_le h1 HLN.out
      have y0 := HCL.out j a h1 ha
      subst ha
      have hdr : es.drop j = rd es (j : Int) :: es.drop (j + 1) := by
        rw [List.drop_eq_getElem_cons h1]
        congr 1
        unfold rd
        rw [Int.toNat_natCast, List.getD_eq_getElem?_getD, List.getElem?_eq_getElem h1]
        rfl
      have HE1 := Aside0.mk (show moreOk (rd es (j : Int)) by_ tb ∧ endsOk by_ (es.drop (j + 1)) (moreT (rd es (j : Int)) by_ tb) from by have := HE.out; rw [hdr] at this; exact this)
      have HT2 := Aside0.mk (show endsT by_ (es.drop (j + 1)) (moreT (rd es (j : Int)) by_ tb) = endsT by_ es x.b from by have := HT1.out; rw [hdr] at this; exact this)
      have z0 := blk_cell HTB.out 0
      have zf : wr.frozen? ⟨gt, 0, none⟩ = false := blk_frozen HTB.out 0
      have hmo := more_any pb' (rd es (j : Int)) by_ tb wr HPB.out HE1.out.1.1 HE1.out.1.2.1 HE1.out.1.2.2.1 HE1.out.1.2.2.2.1 HE1.out.1.2.2.2.2 h3 h4
      clear hdr HE HT1
      generalize rd es (j : Int) = kj at *
      go_wp2_with fail
      refine hmo.mono ?_
      rintro e w5 ⟨⟨gb, rfl, hr⟩, hb⟩
      have HB5 := Aside0.mk (HB.out.trans (hb.mono HB.out.size))
      have HTB5 := Aside0.mk (blk_below HTB.out hb)
      have HR5 := Aside0.mk (HR.out.below hb)
      have HPB5 := Aside0.mk hr
      have HCL5 := Aside0.mk (fun i (b : Addr) hi hb2 => cb (HCL.out i b hi hb2) hb)
      have z0 := blk_cell HTB5.out 0
      have zf : w5.frozen? ⟨gt, 0, none⟩ = false := blk_frozen HTB5.out 0
      clear hmo hr hb y0 HB HTB HR HPB HCL
      go_wp2_with fail
      go_roundw
      case rel =>
        refine ⟨j + 1, some ⟨gb, 0, none⟩, moreT kj by_ tb, by go_num, by omega, HT2, ⟨HE1.out.2⟩, ⟨HPB5.out.farT HTB5.out⟩, ⟨HR5.out.farT HTB5.out⟩, ⟨blk_put HTB5.out 0 _ rfl⟩, ⟨fun i b hi hb2 => ?_⟩, ⟨HB5.out.setCell (p := ⟨gt, 0, none⟩) HGT.out _⟩⟩
        obtain ⟨b', e1, e2⟩ := HNE.out i hi
        rw [hb2] at e1
        cases e1
        have hc1 := HCL5.out i b hi hb2
        rw [World.cell?_of_block (w := w5) (Below.heap_setCell w5 ⟨gt, 0, none⟩ _ (b.add i).block e2)]
        exact hc1
      case measure => simp [intOf]; omega
    · have h1' : ¬ (j : Int) < (es.length : Int) := by omega
      have HZ := Aside0.mk (show tb = endsT by_ es x.b from by rw [← HT1.out, List.drop_of_length_le (by omega)]; rfl)
      go_wp2_with fail
      go_ret
      exact ⟨⟨_, rfl, gt, pb', some ⟨gr, 0, none⟩, rfl, by rw [HW.out]; exact HTB.out, by rw [HW.out]; show RootAt _ _ (endsT by_ es x.b); rw [← HZ.out]; exact HPB.out, by rw [HW.out]; exact HR.out⟩, HB.out⟩
end Go.Proofs.Ytjfbiabgeickjaa.H
/-! ### Atm5 -/
namespace Go.Proofs.Ytjfbiabgeickjaa.H
open Go.RowKit Go.Proofs.Ytjfbiabgeickjaa.P Go.Proofs.YtjfbiabgeickjaaW.PrintWords Go.Proofs.YtjfbiabgeickjaaW.PrintLast Go.Proofs.YtjfbiabgeickjaaW.PrintMore
set_option linter.unusedVariables false
set_option linter.unusedSimpArgs false
/-- What Add and Drop hand back. -/
def TabRes (r : Except Int Tab) (w : World) (e : Ending) (w' : World) : Prop := (match r with
  | .error c => e = .returned (.tuple #[.pointer none, .int .i64 c])
  | .ok x => ∃ P, e = .returned (.tuple #[.pointer P, .int .i64 0]) ∧ TabAtm w' P x) ∧ Below w.heap.size w w'
def addTab (f t : Int) (x : Tab) : Except Int Tab := if t < f then .error 51 else if 500 ≤ x.n then .error 41 else .ok (withTab f t 1 x)
def dropTab (f t : Int) (x : Tab) : Except Int Tab := if numT (keyF f t) x.r = 0 then .error 51 else .ok (withTab f t (-1) x)
set_option maxRecDepth 20000 in
set_option maxHeartbeats 2000000 in
theorem add_tab (P : Option Addr) (x : Tab) (f t : Int) (w : World) (h : TabAtm w P x) (hok : ¬ t < f → ¬ 500 ≤ x.n → moreOk (keyF f t) 1 x.r ∧ endsOk 1 (endsL f t) x.b) (h5 : -100000 ≤ x.n) (h6 : x.n ≤ 100000) :
    Calls Try.prog 10 #[.pointer P, .agg #[.int .u32 f, .int .u32 t]] w fun e w' => TabRes (addTab f t x) w e w' := by
  have hu := Try.underlying30
  have hb0 : Below w.heap.size w (w.alloc (.cells #[.int .u32 f, .int .u32 t] 30)) := (Below.refl w.heap.size w).alloc (Nat.le_refl _) _
  have HY := Aside0.mk (blk_new w (.cells #[.int .u32 f, .int .u32 t] 30))
  have h0 := h.below hb0
  have HB0 := Aside0.mk hb0
  have ho := own_some P x _ h0
  have HW := Aside0.mk (fun (h1 : moreOk (keyF f t) 1 x.r) (h2 : endsOk 1 (endsL f t) x.b) => with_tab P x f t 1 _ h0 h1 h2 (by decide) (by decide) h5 h6)
  have HOK := Aside0.mk hok
  clear h hok hb0
  obtain ⟨g, pb, pr, rfl, hg, _, _⟩ := h0
  have x2 := blk_cell hg 2
  have y0 := blk_cell HY.out 0
  have y1 := blk_cell HY.out 1
  have HA := Aside0.mk (show addTab f t x = if t < f then .error 51 else if 500 ≤ x.n then .error 41 else .ok (withTab f t 1 x) from rfl)
  generalize addTab f t x = ra at *
  generalize x.n = xn at *
  clear hg HY
  by_cases c1 : t < f
  · have HE := Aside0.mk (show ra = .error 51 from by rw [HA.out, if_pos c1])
    go_enter Try.func10, Try.ntmps10
    go_wp2_with fail
    generalize (w.alloc (.cells #[.int .u32 f, .int .u32 t] 30)) = w0 at *
    refine ho.mono ?_
    rintro e w1 ⟨rfl, rfl⟩
    clear ho
    go_wp2_with fail
    go_ret2
    rw [HE.out]
    exact ⟨rfl, HB0.out⟩
  · by_cases c2 : 500 ≤ xn
    · have HE := Aside0.mk (show ra = .error 41 from by rw [HA.out, if_neg c1, if_pos c2])
      go_enter Try.func10, Try.ntmps10
      go_wp2_with fail
      generalize (w.alloc (.cells #[.int .u32 f, .int .u32 t] 30)) = w0 at *
      refine ho.mono ?_
      rintro e w1 ⟨rfl, rfl⟩
      clear ho
      go_wp2_with fail
      go_ret2
      rw [HE.out]
      exact ⟨rfl, HB0.out⟩
    · have HE := Aside0.mk (show ra = .ok (withTab f t 1 x) from by rw [HA.out, if_neg c1, if_neg c2])
      have hw := HW.out (HOK.out c1 c2).1 (HOK.out c1 c2).2
      go_enter Try.func10, Try.ntmps10
      go_wp2_with fail
      generalize (w.alloc (.cells #[.int .u32 f, .int .u32 t] 30)) = w0 at *
      refine ho.mono ?_
      rintro e w1 ⟨rfl, rfl⟩
      clear ho
      go_wp2_with fail
      refine hw.mono ?_
      rintro e w2 ⟨⟨P2, rfl, hp⟩, hb⟩
      have HP := Aside0.mk hp
      have HB2 := Aside0.mk (HB0.out.trans (hb.mono HB0.out.size))
      clear hw hp hb
      go_wp2_with fail
      go_ret2
      rw [HE.out]
      exact ⟨⟨_, rfl, HP.out⟩, HB2.out⟩
end Go.Proofs.Ytjfbiabgeickjaa.H
/-! ### Atm6 -/
namespace Go.Proofs.Ytjfbiabgeickjaa.H
open Go.RowKit Go.Proofs.Ytjfbiabgeickjaa.P Go.Proofs.YtjfbiabgeickjaaW.PrintWords Go.Proofs.YtjfbiabgeickjaaW.PrintLast Go.Proofs.YtjfbiabgeickjaaW.PrintMore
set_option linter.unusedVariables false
set_option linter.unusedSimpArgs false
set_option maxRecDepth 20000 in
set_option maxHeartbeats 2000000 in
theorem drop_tab (P : Option Addr) (x : Tab) (f t : Int) (w : World) (h : TabAtm w P x) (hok : ¬ numT (keyF f t) x.r = 0 → moreOk (keyF f t) (-1) x.r ∧ endsOk (-1) (endsL f t) x.b) (h5 : -100000 ≤ x.n) (h6 : x.n ≤ 100000) :
    Calls Try.prog 25 #[.pointer P, .agg #[.int .u32 f, .int .u32 t]] w fun e w' => TabRes (dropTab f t x) w e w' := by
  have hu := Try.underlying30
  have hb0 : Below w.heap.size w (w.alloc (.cells #[.int .u32 f, .int .u32 t] 30)) := (Below.refl w.heap.size w).alloc (Nat.le_refl _) _
  have HY := Aside0.mk (blk_new w (.cells #[.int .u32 f, .int .u32 t] 30))
  have h0 := h.below hb0
  have HB0 := Aside0.mk hb0
  have ho := own_some P x _ h0
  have hcn := count_any P x f t _ h0
  have HW := Aside0.mk (fun (W : World) (hW : TabAtm W P x) (h1 : moreOk (keyF f t) (-1) x.r) (h2 : endsOk (-1) (endsL f t) x.b) => with_tab P x f t (-1) W hW h1 h2 (by decide) (by decide) h5 h6)
  have HOK := Aside0.mk hok
  have HT0 := Aside0.mk h0
  clear h hok hb0
  obtain ⟨g, pb, pr, rfl, _, _, _⟩ := h0
  have y0 := blk_cell HY.out 0
  have y1 := blk_cell HY.out 1
  have HA := Aside0.mk (show dropTab f t x = if numT (keyF f t) x.r = 0 then .error 51 else .ok (withTab f t (-1) x) from rfl)
  generalize dropTab f t x = ra at *
  generalize numT (keyF f t) x.r = nn at *
  by_cases c1 : nn = 0
  · have HE := Aside0.mk (show ra = .error 51 from by rw [HA.out, if_pos c1])
    go_enter Try.func25, Try.ntmps25
    go_wp2_with fail
    generalize (w.alloc (.cells #[.int .u32 f, .int .u32 t] 30)) = w0 at *
    refine ho.mono ?_
    rintro e w1 ⟨rfl, rfl⟩
    clear ho
    go_wp2_with fail
    refine hcn.mono ?_
    rintro e w2 ⟨rfl, hb⟩
    have HB2 := Aside0.mk (HB0.out.trans (hb.mono HB0.out.size))
    clear hcn hb y0 y1
    go_wp2_with fail
    go_ret2
    rw [HE.out]
    exact ⟨rfl, HB2.out⟩
  · have HE := Aside0.mk (show ra = .ok (withTab f t (-1) x) from by rw [HA.out, if_neg c1])
    have HK := Aside0.mk (HOK.out c1)
    go_enter Try.func25, Try.ntmps25
    go_wp2_with fail
    generalize (w.alloc (.cells #[.int .u32 f, .int .u32 t] 30)) = w0 at *
    refine ho.mono ?_
    rintro e w1 ⟨rfl, rfl⟩
    clear ho
    go_wp2_with fail
    refine hcn.mono ?_
    rintro e w2 ⟨rfl, hb⟩
    have HB2 := Aside0.mk (HB0.out.trans (hb.mono HB0.out.size))
    have hw := HW.out w2 (HT0.out.below hb) HK.out.1 HK.out.2
    have z0 := cb y0 hb
    have z1 := cb y1 hb
    clear hcn hb y0 y1
    go_wp2_with fail
    refine hw.mono ?_
    rintro e w3 ⟨⟨P2, rfl, hp⟩, hb⟩
    have HP := Aside0.mk hp
    have HB3 := Aside0.mk (HB2.out.trans (hb.mono HB2.out.size))
    clear hw hp hb
    go_wp2_with fail
    go_ret2
    rw [HE.out]
    exact ⟨⟨_, rfl, HP.out⟩, HB3.out⟩
end Go.Proofs.Ytjfbiabgeickjaa.H
/-! ### AtmQ -/
namespace Go.Proofs.Ytjfbiabgeickjaa.H
open Go.RowKit Go.Proofs.Ytjfbiabgeickjaa.P Go.Proofs.YtjfbiabgeickjaaW.PrintWords Go.Proofs.YtjfbiabgeickjaaW.PrintLast Go.Proofs.YtjfbiabgeickjaaW.PrintMore
set_option linter.unusedVariables false
abbrev Rg := S30
/-- A range's ends. -/
def eP (p : Rg) (k : Int) : Int := (if k = p.f0 then 1 else 0) + (if p.f1 < 4294967295 ∧ k = p.f1 + 1 then 1 else 0)
def sE : List Rg → Int → Int
  | [], _ => 0
  | p :: L, k => eP p k + sE L k
def cB (L : List Rg) (k : Int) : Int := (if k = 0 then 1 else 0) + sE L k
def kP (p : Rg) (k : Int) : Int := if k = keyF p.f0 p.f1 then 1 else 0
def cR : List Rg → Int → Int
  | [], _ => 0
  | p :: L, k => kP p k + cR L k
theorem eP_pos (p : Rg) (k : Int) : 0 ≤ eP p k ∧ eP p k ≤ 2 := by unfold eP; split <;> split <;> omega
theorem kP_pos (p : Rg) (k : Int) : 0 ≤ kP p k ∧ kP p k ≤ 1 := by unfold kP; split <;> omega
theorem sE_pos : ∀ (L : List Rg) (k : Int), 0 ≤ sE L k ∧ sE L k ≤ 2 * L.length
  | [], k => by simp [sE]
  | p :: L, k => by have h1 := eP_pos p k; have h2 := sE_pos L k; simp only [sE, List.length_cons]; omega
theorem cR_pos : ∀ (L : List Rg) (k : Int), 0 ≤ cR L k ∧ cR L k ≤ L.length
  | [], k => by simp [cR]
  | p :: L, k => by have h1 := kP_pos p k; have h2 := cR_pos L k; simp only [cR, List.length_cons]; omega
theorem sE_app : ∀ (L M : List Rg) (k : Int), sE (L ++ M) k = sE L k + sE M k
  | [], M, k => by simp [sE]
  | p :: L, M, k => by simp only [List.cons_append, sE, sE_app L M k]; omega
theorem cR_app : ∀ (L M : List Rg) (k : Int), cR (L ++ M) k = cR L k + cR M k
  | [], M, k => by simp [cR]
  | p :: L, M, k => by simp only [List.cons_append, cR, cR_app L M k]; omega
theorem rg_ext {p q : Rg} (h0 : p.f0 = q.f0) (h1 : p.f1 = q.f1) : p = q := by cases p; cases q; simp at h0 h1; rw [h0, h1]
/-- The first one that is p goes. -/
def delP (f t : Int) : List Rg → List Rg
  | [] => []
  | q :: L => if q.f0 = f ∧ q.f1 = t then L else q :: delP f t L
theorem sE_del (p : Rg) (k : Int) : ∀ L : List Rg, p ∈ L → sE (delP p.f0 p.f1 L) k + eP p k = sE L k
  | [], h => by cases h
  | q :: L, h => by
    unfold delP
    by_cases e : q.f0 = p.f0 ∧ q.f1 = p.f1
    · rw [if_pos e, rg_ext e.1 e.2]; simp only [sE]; omega
    · rw [if_neg e]
      rcases List.mem_cons.1 h with rfl | h
      · exact absurd ⟨rfl, rfl⟩ e
      · have := sE_del p k L h; simp only [sE]; omega
theorem cR_del (p : Rg) (k : Int) : ∀ L : List Rg, p ∈ L → cR (delP p.f0 p.f1 L) k + kP p k = cR L k
  | [], h => by cases h
  | q :: L, h => by
    unfold delP
    by_cases e : q.f0 = p.f0 ∧ q.f1 = p.f1
    · rw [if_pos e, rg_ext e.1 e.2]; simp only [cR]; omega
    · rw [if_neg e]
      rcases List.mem_cons.1 h with rfl | h
      · exact absurd ⟨rfl, rfl⟩ e
      · have := cR_del p k L h; simp only [cR]; omega
theorem del_len (f t : Int) : ∀ L : List Rg, (⟨f, t⟩ : Rg) ∈ L → (delP f t L).length + 1 = L.length
  | [], h => by cases h
  | q :: L, h => by
    unfold delP
    by_cases e : q.f0 = f ∧ q.f1 = t
    · rw [if_pos e, List.length_cons]
    · rw [if_neg e]
      rcases List.mem_cons.1 h with rfl | h
      · exact absurd ⟨rfl, rfl⟩ e
      · have := del_len f t L h; simp only [List.length_cons]; omega
theorem mem_del (f t : Int) : ∀ (L : List Rg) (q : Rg), q ∈ delP f t L → q ∈ L
  | [], _, h => h
  | x :: L, q, h => by
    unfold delP at h
    by_cases e : x.f0 = f ∧ x.f1 = t
    · rw [if_pos e] at h; exact List.mem_cons_of_mem _ h
    · rw [if_neg e] at h
      rcases List.mem_cons.1 h with rfl | h
      · exact List.mem_cons_self ..
      · exact List.mem_cons_of_mem _ (mem_del f t L q h)
theorem rep_congr {t : T} {c c' : Int → Int} (h : Rep t c) (e : ∀ k, c k = c' k) : Rep t c' := by
  have : c = c' := funext e
  subst this; exact h
theorem more_add {t : T} {c : Int → Int} (h : Rep t c) (k : Int) (h0 : 0 ≤ c k) (hm : c k ≤ 90000) (hs : sz t < 1024) : moreOk k 1 t ∧ Rep (moreT k 1 t) (upd c k 1) ∧ sz (moreT k 1 t) ≤ sz t + 1 := by
  have hn := rep_num h k
  refine ⟨⟨by omega, ?_, fun e => by omega, by omega, by omega⟩, rep_more h k 1 (fun e => by omega), ?_⟩
  · unfold fullT
    have : ¬ 1024 ≤ sz t := by omega
    simp [this]
  · unfold moreT
    rw [if_neg (by omega), sz_with_eq]
    split <;> omega
theorem more_sub {t : T} {c : Int → Int} (h : Rep t c) (k : Int) (h0 : 1 ≤ c k) (hm : c k ≤ 90000) (hs : sz t < 1024) : moreOk k (-1) t ∧ Rep (moreT k (-1) t) (upd c k (-1)) ∧ sz (moreT k (-1) t) ≤ sz t := by
  have hn := rep_num h k
  have hh := (rep_has h k).2 (by omega)
  refine ⟨⟨by omega, ?_, fun e => hh, by omega, by omega⟩, rep_more h k (-1) (fun e => by omega), ?_⟩
  · unfold fullT
    have : ¬ 1024 ≤ sz t := by omega
    simp [this]
  · unfold moreT
    split
    · have := (toL_without k t).2 hh; omega
    · rw [sz_with_eq, if_pos hh]; omega
/-- A table is that of a list of ranges; m tells how large it may be. -/
structure Inv (m : Nat) (x : Tab) (L : List Rg) : Prop where
  b : Rep x.b (cB L)
  r : Rep x.r (cR L)
  n : x.n = (L.length : Nat)
  len : L.length ≤ m
  sb : sz x.b ≤ 1 + 2 * m
  sr : sz x.r ≤ m
  ok : ∀ p ∈ L, 0 ≤ p.f0 ∧ p.f0 ≤ p.f1 ∧ p.f1 ≤ 4294967295
theorem Inv.mono {m m' : Nat} {x : Tab} {L : List Rg} (h : Inv m x L) (hm : m ≤ m') : Inv m' x L := ⟨h.b, h.r, h.n, Nat.le_trans h.len hm, by have := h.sb; omega, by have := h.sr; omega, h.ok⟩
theorem inv_new : Inv 0 newTab [] := by
  refine ⟨?_, rep_congr rep_leaf (fun k => rfl), rfl, Nat.le_refl _, by decide, by decide, fun p h => by cases h⟩
  have h := rep_more rep_leaf 0 1 (fun e => by omega)
  rw [show moreT 0 1 .leaf = withT 0 1 .leaf from rfl] at h
  refine rep_congr h (fun k => ?_)
  simp only [upd, cB, sE]; omega
theorem wrap_u32 {f : Int} (h0 : 0 ≤ f) (h1 : f ≤ 4294967296) : IntKind.u64.wrap f = f := by simp [IntKind.wrap, IntKind.bits, IntKind.signed]; omega
theorem endsL_eq {f t : Int} (h0 : 0 ≤ f) (h1 : f ≤ t) (h2 : t ≤ 4294967295) : endsL f t = if t < 4294967295 then [f, t + 1] else [f] := by
  unfold endsL
  rw [wrap_u32 h0 (by omega), wrap_u32 (f := t) (by omega) (by omega), wrap_u32 (f := t + 1) (by omega) (by omega)]
theorem Inv.add {m : Nat} {x : Tab} {L : List Rg} (h : Inv m x L) (hm : m ≤ 400) (f t : Int) (h0 : 0 ≤ f) (h1 : f ≤ t) (h2 : t ≤ 4294967295) :
    moreOk (keyF f t) 1 x.r ∧ endsOk 1 (endsL f t) x.b ∧ Inv (m + 1) (withTab f t 1 x) (L ++ [⟨f, t⟩]) := by
  have hp : ∀ k, 0 ≤ cB L k ∧ cB L k ≤ 1 + 2 * L.length := fun k => by have := sE_pos L k; unfold cB; split <;> omega
  have hq := fun k => cR_pos L k
  have hl := h.len
  have hb := h.sb
  have hr := h.sr
  have R := more_add h.r (keyF f t) (hq _).1 (by have := (hq (keyF f t)).2; omega) (by omega)
  have B := more_add h.b f (hp f).1 (by have := (hp f).2; omega) (by omega)
  have hok : ∀ p ∈ L ++ [(⟨f, t⟩ : Rg)], 0 ≤ p.f0 ∧ p.f0 ≤ p.f1 ∧ p.f1 ≤ 4294967295 := fun p hp => by
    rcases List.mem_append.1 hp with hp | hp
    · exact h.ok p hp
    · rw [List.mem_singleton.1 hp]; exact ⟨h0, h1, h2⟩
  have hrr : Rep (moreT (keyF f t) 1 x.r) (cR (L ++ [⟨f, t⟩])) := rep_congr R.2.1 (fun k => by rw [cR_app]; simp only [upd, cR, kP]; omega)
  have hn : x.n + 1 = ((L ++ [(⟨f, t⟩ : Rg)]).length : Nat) := by rw [h.n]; simp
  rw [endsL_eq h0 h1 h2]
  unfold withTab
  rw [endsL_eq h0 h1 h2]
  by_cases e : t < 4294967295
  · rw [if_pos e]
    have hu : 0 ≤ upd (cB L) f 1 (t + 1) ∧ upd (cB L) f 1 (t + 1) ≤ 2 + 2 * L.length := by have := hp (t + 1); unfold upd; split <;> omega
    have B2 := more_add B.2.1 (t + 1) hu.1 (by omega) (by omega)
    refine ⟨R.1, ⟨B.1, B2.1, trivial⟩, ⟨rep_congr B2.2.1 (fun k => ?_), hrr, hn, by simp; omega, by have := B.2.2; have := B2.2.2; simp only [endsT]; omega, by have := R.2.2; simp only []; omega, hok⟩⟩
    simp only [upd, cB, sE_app, sE, eP, e, true_and]; omega
  · rw [if_neg e]
    refine ⟨R.1, ⟨B.1, trivial⟩, ⟨rep_congr B.2.1 (fun k => ?_), hrr, hn, by simp; omega, by have := B.2.2; simp only [endsT]; omega, by have := R.2.2; simp only []; omega, hok⟩⟩
    simp only [upd, cB, sE_app, sE, eP, e, false_and, if_false]; omega
theorem Inv.drop {m : Nat} {x : Tab} {L : List Rg} (h : Inv m x L) (hm : m ≤ 400) (f t : Int) (hp : (⟨f, t⟩ : Rg) ∈ L) :
    moreOk (keyF f t) (-1) x.r ∧ endsOk (-1) (endsL f t) x.b ∧ Inv m (withTab f t (-1) x) (delP f t L) := by
  obtain ⟨h0, h1, h2⟩ := h.ok _ hp
  simp only [] at h0 h1 h2
  have hpp : ∀ k, cB L k ≤ 1 + 2 * L.length := fun k => by have := sE_pos L k; unfold cB; split <;> omega
  have hq := fun k => cR_pos L k
  have hl := h.len
  have hb := h.sb
  have hr := h.sr
  have hdl := del_len f t L hp
  have hse := fun k => sE_del ⟨f, t⟩ k L hp
  have hcr := fun k => cR_del ⟨f, t⟩ k L hp
  simp only [] at hse hcr
  have hsp := fun k => (sE_pos (delP f t L) k).1
  have hcp := fun k => (cR_pos (delP f t L) k).1
  have hcB : ∀ k, cB L k = cB (delP f t L) k + eP ⟨f, t⟩ k := fun k => by have := hse k; unfold cB; omega
  have hcBp : ∀ k, 0 ≤ cB (delP f t L) k := fun k => by have := hsp k; unfold cB; split <;> omega
  have R := more_sub h.r (keyF f t) (by have := hcr (keyF f t); have := hcp (keyF f t); simp only [kP, if_true] at *; omega) (by have := (hq (keyF f t)).2; omega) (by omega)
  have hef : 1 ≤ eP ⟨f, t⟩ f := by unfold eP; simp only [if_true]; split <;> omega
  have B := more_sub h.b f (by have := hcB f; have := hcBp f; omega) (by have := hpp f; omega) (by omega)
  have hok : ∀ p ∈ delP f t L, 0 ≤ p.f0 ∧ p.f0 ≤ p.f1 ∧ p.f1 ≤ 4294967295 := fun p hp => h.ok p (mem_del f t L p hp)
  have hrr : Rep (moreT (keyF f t) (-1) x.r) (cR (delP f t L)) := rep_congr R.2.1 (fun k => by have := hcr k; simp only [upd, kP] at *; split <;> simp_all <;> omega)
  have hn : x.n + -1 = ((delP f t L).length : Nat) := by rw [h.n]; omega
  rw [endsL_eq h0 h1 h2]
  unfold withTab
  rw [endsL_eq h0 h1 h2]
  by_cases e : t < 4294967295
  · rw [if_pos e]
    have het : eP ⟨f, t⟩ (t + 1) = 1 := by unfold eP; simp only [e, true_and, if_true]; rw [if_neg (by omega)]; rfl
    have hu : upd (cB L) f (-1) (t + 1) = cB L (t + 1) := by unfold upd; rw [if_neg (by omega), Int.add_zero]
    have B2 := more_sub B.2.1 (t + 1) (by rw [hu]; have := hcB (t + 1); have := hcBp (t + 1); omega) (by rw [hu]; have := hpp (t + 1); omega) (by omega)
    refine ⟨R.1, ⟨B.1, B2.1, trivial⟩, ⟨rep_congr B2.2.1 (fun k => ?_), hrr, hn, by omega, by have := B.2.2; have := B2.2.2; simp only [endsT]; omega, by have := R.2.2; simp only []; omega, hok⟩⟩
    have hk := hcB k
    have hep : eP ⟨f, t⟩ k = (if k = f then 1 else 0) + (if k = t + 1 then 1 else 0) := by unfold eP; simp only [e, true_and]
    simp only [upd]
    rw [hk, hep]
    split <;> split <;> omega
  · rw [if_neg e]
    refine ⟨R.1, ⟨B.1, trivial⟩, ⟨rep_congr B.2.1 (fun k => ?_), hrr, hn, by omega, by have := B.2.2; simp only [endsT]; omega, by have := R.2.2; simp only []; omega, hok⟩⟩
    have hk := hcB k
    have hep : eP ⟨f, t⟩ k = (if k = f then 1 else 0) := by unfold eP; simp only [e, false_and, if_false, Int.add_zero]
    simp only [upd]
    rw [hk, hep]
    split <;> omega
end Go.Proofs.Ytjfbiabgeickjaa.H
/-! ### AtmR -/
namespace Go.Proofs.Ytjfbiabgeickjaa.H
open Go.RowKit Go.Proofs.Ytjfbiabgeickjaa.P Go.Proofs.YtjfbiabgeickjaaW.PrintWords Go.Proofs.YtjfbiabgeickjaaW.PrintLast Go.Proofs.YtjfbiabgeickjaaW.PrintMore
set_option linter.unusedVariables false
def keysT (t : T) : List Int := (toL t).map Prod.fst
theorem keys_len (t : T) : (keysT t).length = sz t := by unfold keysT; rw [List.length_map, toL_len]
abbrev Up (K : List Int) : Prop := K.Pairwise fun a b => a < b
theorem keys_up {t : T} (h : srt t) : Up (keysT t) := by
  unfold Up keysT
  rw [List.pairwise_map]; exact h
theorem keys_mem {t : T} {c : Int → Int} (h : Rep t c) (k : Int) : k ∈ keysT t ↔ c k ≠ 0 := by
  unfold keysT
  rw [List.mem_map]
  constructor
  · rintro ⟨⟨a, b⟩, hm, rfl⟩
    have := (h.2.2 a b).1 hm
    show c a ≠ 0
    rw [this.1]; exact this.2
  · intro hc; exact ⟨(k, c k), (h.2.2 k (c k)).2 ⟨rfl, hc⟩, rfl⟩
/-- All that the document looks at. -/
def allL : List Rg → List Int
  | [] => []
  | p :: L => p.f0 :: (p.f1 + 1) :: allL L
theorem sE_mem : ∀ (L : List Rg) (k : Int), k ≤ 4294967295 → (sE L k ≠ 0 ↔ k ∈ allL L)
  | [], k, _ => by simp [sE, allL]
  | p :: L, k, hk => by
    have ih := sE_mem L k hk
    have h1 := eP_pos p k
    have h2 := (sE_pos L k).1
    simp only [sE, allL, List.mem_cons]
    by_cases e : k ∈ allL L
    · have := ih.2 e
      constructor
      · intro _; exact .inr (.inr e)
      · intro _; omega
    · have h0 : sE L k = 0 := by
        rcases Decidable.em (sE L k = 0) with h | h
        · exact h
        · exact absurd (ih.1 h) e
      rw [h0]
      constructor
      · intro hn
        unfold eP at hn
        by_cases e1 : k = p.f0
        · exact .inl e1
        · rw [if_neg e1] at hn
          by_cases e2 : p.f1 < 4294967295 ∧ k = p.f1 + 1
          · exact .inr (.inl e2.2)
          · rw [if_neg e2] at hn; omega
      · rintro (e1 | e1 | e1)
        · unfold eP; rw [if_pos e1]; split <;> omega
        · unfold eP
          rw [if_pos (show p.f1 < 4294967295 ∧ k = p.f1 + 1 from ⟨by omega, e1⟩)]
          split <;> omega
        · exact absurd e1 e
theorem sE_big : ∀ (L : List Rg) (k : Int), (∀ p ∈ L, 0 ≤ p.f0 ∧ p.f0 ≤ p.f1 ∧ p.f1 ≤ 4294967295) → (k < 0 ∨ 4294967295 < k) → sE L k = 0
  | [], k, _, _ => rfl
  | p :: L, k, h, hk => by
    have h1 := h p (List.mem_cons_self ..)
    simp only [sE, sE_big L k (fun q hq => h q (List.mem_cons_of_mem _ hq)) hk]
    unfold eP
    rw [if_neg (by omega), if_neg (by omega)]; rfl
theorem Inv.keys {m : Nat} {x : Tab} {L : List Rg} (h : Inv m x L) (k : Int) : k ∈ keysT x.b ↔ (k ∈ (0 : Int) :: allL L ∧ k ≤ 4294967295) := by
  rw [keys_mem h.b k]
  unfold cB
  by_cases hk : k < 0 ∨ 4294967295 < k
  · rw [sE_big L k h.ok hk, if_neg (by omega)]
    constructor
    · intro h; exact absurd rfl h
    · rintro ⟨h1, h2⟩
      have hk0 : k < 0 := by omega
      rcases List.mem_cons.1 h1 with e | e
      · omega
      · have := (sE_mem L k h2).2 e
        rw [sE_big L k h.ok (.inl hk0)] at this
        exact absurd rfl this
  · have hk2 : k ≤ 4294967295 := by omega
    have h1 := sE_mem L k hk2
    have h2 := (sE_pos L k).1
    rw [List.mem_cons]
    by_cases e0 : k = 0
    · rw [if_pos e0]
      constructor
      · intro _; exact ⟨.inl e0, hk2⟩
      · intro _; omega
    · rw [if_neg e0, Int.zero_add, h1]
      constructor
      · intro h; exact ⟨.inr h, hk2⟩
      · rintro ⟨h | h, _⟩
        · exact absurd h e0
        · exact h
theorem Inv.range {m : Nat} {x : Tab} {L : List Rg} (h : Inv m x L) (k : Int) (hk : k ∈ keysT x.b) : 0 ≤ k ∧ k ≤ 4294967295 := by
  have h1 := (keys_mem h.b k).1 hk
  unfold cB at h1
  rcases Decidable.em (k < 0 ∨ 4294967295 < k) with h2 | h2
  · rw [sE_big L k h.ok h2, if_neg (by omega)] at h1; exact absurd rfl h1
  · omega
/-- The first one is 0. -/
theorem Inv.zero {m : Nat} {x : Tab} {L : List Rg} (h : Inv m x L) : ∃ K, keysT x.b = 0 :: K := by
  have h0 := (h.keys 0).2 ⟨List.mem_cons_self .., by omega⟩
  have hu := keys_up h.b.1
  have hr := fun k hk => h.range k hk
  generalize keysT x.b = K at *
  cases K with
  | nil => cases h0
  | cons a K =>
    rcases List.mem_cons.1 h0 with rfl | e
    · exact ⟨K, rfl⟩
    · have := (List.pairwise_cons.1 hu).1 _ e
      have := (hr a (List.mem_cons_self ..)).1
      omega
/-- The atoms of cuts. -/
def atomsK : List Int → List Rg
  | [] => []
  | [a] => [⟨a, 4294967295⟩]
  | a :: b :: K => ⟨a, b - 1⟩ :: atomsK (b :: K)
theorem atomsK_len : ∀ K : List Int, (atomsK K).length = K.length
  | [] => rfl
  | [a] => rfl
  | a :: b :: K => by simp only [atomsK, List.length_cons, atomsK_len (b :: K)]
def endK (K : List Int) (i : Nat) : Int := match K[i + 1]? with
  | some b => b - 1
  | none => 4294967295
theorem atomsK_at : ∀ (K : List Int) (i : Nat), (atomsK K)[i]? = (K[i]?).map fun a => ⟨a, endK K i⟩
  | [], i => by simp [atomsK]
  | [a], 0 => by simp [atomsK, endK]
  | [a], i + 1 => by simp [atomsK]
  | a :: b :: K, 0 => by simp [atomsK, endK]
  | a :: b :: K, i + 1 => by
    have := atomsK_at (b :: K) i
    simp only [atomsK, List.getElem?_cons_succ, this]
    simp only [endK, List.getElem?_cons_succ]
/-- Which atom has an address. -/
def ofA (a : Int) : List Rg → Nat
  | [] => 0
  | p :: L => if p.f1 < a then 1 + ofA a L else 0
theorem ofA_low (a : Int) (ha : a ≤ 4294967295) : ∀ (K : List Int) (k : Int), Up (k :: K) → k ≤ a → ofA a (atomsK (k :: K)) + 1 = ((k :: K).filter fun x => decide (x < a + 1)).length
  | [], k, _, hk => by
    have : k < a + 1 := by omega
    simp [atomsK, ofA, this]; omega
  | b :: K, k, hu, hk => by
    have h1 : k < a + 1 := by omega
    rw [List.filter_cons_of_pos (by simpa using h1)]
    simp only [atomsK, ofA, List.length_cons]
    have hu2 := List.pairwise_cons.1 hu
    by_cases e : b ≤ a
    · rw [if_pos (by omega), ← ofA_low a ha K b hu2.2 e]; omega
    · rw [if_neg (by omega)]
      have : (b :: K).filter (fun x => decide (x < a + 1)) = [] := by
        rw [List.filter_eq_nil_iff]
        intro x hx
        have : b ≤ x := by
          rcases List.mem_cons.1 hx with rfl | hx
          · exact Int.le_refl _
          · exact Int.le_of_lt ((List.pairwise_cons.1 hu2.2).1 x hx)
        simp; omega
      rw [this]; rfl
theorem place_keys (k : Int) (t : T) (h : srt t) : placeT k t = ((keysT t).filter fun x => decide (x < k)).length := by
  unfold placeT keysT
  rw [← toL_len, (toL_cut k t h).1, List.filter_map, List.length_map]; rfl
theorem Inv.of {m : Nat} {x : Tab} {L : List Rg} (h : Inv m x L) (a : Int) (h0 : 0 ≤ a) (h1 : a ≤ 4294967295) : placeT (a + 1) x.b = ofA a (atomsK (keysT x.b)) + 1 := by
  obtain ⟨K, hK⟩ := h.zero
  have hu := keys_up h.b.1
  rw [place_keys _ _ h.b.1, hK, ofA_low a h1 K 0 (by rw [← hK]; exact hu) h0]
/-- Where something begins, nothing else is told apart just below it. -/
theorem low_key : ∀ (K : List Int) (f : Int), Up K → f ∈ K → ((K.filter fun x => decide (x < f + 1)).length = (K.filter fun x => decide (x < f)).length + 1)
  | [], f, _, h => by cases h
  | k :: K, f, hu, h => by
    have hu2 := List.pairwise_cons.1 hu
    rcases List.mem_cons.1 h with rfl | h
    · have e1 : ∀ g, g ≤ f + 1 → K.filter (fun x => decide (x < g)) = [] := fun g hg => by
        rw [List.filter_eq_nil_iff]; intro x hx; have := hu2.1 x hx; simp; omega
      rw [List.filter_cons_of_pos (by simp; omega), List.filter_cons_of_neg (by simp), e1 (f + 1) (by omega), e1 f (by omega)]; rfl
    · have := hu2.1 f h
      rw [List.filter_cons_of_pos (by simp; omega), List.filter_cons_of_pos (by simp; omega), List.length_cons, List.length_cons, low_key K f hu2.2 h]
theorem Inv.from_ {m : Nat} {x : Tab} {L : List Rg} (h : Inv m x L) (p : Rg) (hp : p ∈ L) : placeT p.f0 x.b = ofA p.f0 (atomsK (keysT x.b)) := by
  obtain ⟨a1, a2, a3⟩ := h.ok p hp
  have hm : p.f0 ∈ keysT x.b := by
    rw [keys_mem h.b]
    have h1 : sE L p.f0 ≠ 0 := by
      rw [sE_mem L _ (by omega)]
      clear h a1 a2 a3
      induction L with
      | nil => cases hp
      | cons q L ih =>
        rcases List.mem_cons.1 hp with rfl | hp
        · exact List.mem_cons_self ..
        · exact List.mem_cons_of_mem _ (List.mem_cons_of_mem _ (ih hp))
    have h2 := (sE_pos L p.f0).1
    unfold cB
    split <;> omega
  have h1 := h.of p.f0 a1 (by omega)
  rw [place_keys _ _ h.b.1, low_key _ _ (keys_up h.b.1) hm, ← place_keys _ _ h.b.1] at h1
  omega
end Go.Proofs.Ytjfbiabgeickjaa.H
/-! ### AtmS -/
namespace Go.Proofs.Ytjfbiabgeickjaa.H
open Go.RowKit Go.Proofs.Ytjfbiabgeickjaa.P Go.Proofs.YtjfbiabgeickjaaW.PrintWords Go.Proofs.YtjfbiabgeickjaaW.PrintLast Go.Proofs.YtjfbiabgeickjaaW.PrintMore
set_option linter.unusedVariables false
set_option linter.unusedSimpArgs false
theorem evCast {α : Type} {g : Nat → Option α} {r r' : α} (h : Ev g r) (e : r = r') : Ev g r' := e ▸ h
theorem wr1 (j : Nat) (h : j < 9223372036854775807) : wrap64 ((j : Int) + 1) = ((j + 1 : Nat) : Int) := by unfold wrap64; omega
theorem rdR_app (A B : List Rg) (p : Rg) : rd_T30 (A ++ p :: B) (A.length : Int) = p := by
  unfold rd_T30
  rw [Int.toNat_natCast, List.getD_eq_getElem?_getD, List.getElem?_append_right (Nat.le_refl _), Nat.sub_self]; rfl
theorem rd_app (A B : List Int) (p : Int) : rd (A ++ p :: B) (A.length : Int) = p := by
  unfold rd
  rw [Int.toNat_natCast, List.getD_eq_getElem?_getD, List.getElem?_append_right (Nat.le_refl _), Nat.sub_self]; rfl
theorem len_app {α : Type} (A B : List α) (p : α) : ((A.length : Nat) : Int) < ((A ++ p :: B).length : Int) := by rw [List.length_append, List.length_cons]; omega
/-- What the document's Add and Drop answer. -/
def docAdd (f t : Int) (L : List Rg) : List Rg × Int := if t < f then ([], 51) else if 500 ≤ L.length then ([], 41) else (L ++ [⟨f, t⟩], 0)
theorem add_doc (f t : Int) (L : List Rg) (hl : L.length ≤ 100000) : waystoneref05_Add.f L f t = some (docAdd f t L) := by
  unfold waystoneref05_Add.f docAdd
  by_cases c1 : t < f
  · rw [if_pos (show f > t from c1), if_pos c1]
  · rw [if_neg (show ¬ f > t from c1), if_neg c1]
    by_cases c2 : 500 ≤ L.length
    · rw [if_pos (by omega), if_pos c2]
    · rw [if_neg (by omega), if_neg c2]
      simp only [Option.bind_some, List.length_nil, Nat.zero_add, List.nil_append, show L.length < 17592186044416 from by omega, if_true]
def hasR (f t : Int) : List Rg → Bool
  | [] => false
  | p :: L => (p.f0 == f && p.f1 == t) || hasR f t L
theorem hasR_iff (f t : Int) : ∀ L : List Rg, hasR f t L = true ↔ (⟨f, t⟩ : Rg) ∈ L
  | [] => by simp [hasR]
  | p :: L => by
    simp only [hasR, Bool.or_eq_true, Bool.and_eq_true, beq_iff_eq, hasR_iff f t L, List.mem_cons]
    constructor
    · rintro (⟨h1, h2⟩ | h)
      · left; cases p; simp at h1 h2; rw [h1, h2]
      · exact .inr h
    · rintro (h | h)
      · left; rw [← h]; exact ⟨rfl, rfl⟩
      · exact .inr h
def docDrop (f t : Int) (L : List Rg) : List Rg × Int := if hasR f t L = true then (delP f t L, 0) else ([], 51)
theorem del_app (f t : Int) : ∀ A B : List Rg, hasR f t A = false → delP f t (A ++ B) = A ++ delP f t B
  | [], B, _ => rfl
  | p :: A, B, h => by
    simp only [hasR, Bool.or_eq_false_iff] at h
    have : ¬ (p.f0 = f ∧ p.f1 = t) := by
      intro e
      have := h.1
      rw [e.1, e.2] at this
      simp at this
    rw [List.cons_append, delP, if_neg this, del_app f t A B h.2, List.cons_append]
theorem hasR_app (f t : Int) : ∀ A B : List Rg, hasR f t (A ++ B) = (hasR f t A || hasR f t B)
  | [], B => by simp [hasR]
  | p :: A, B => by simp only [List.cons_append, hasR, hasR_app f t A B, Bool.or_assoc]
theorem drop_l0 (f t : Int) : ∀ (B A : List Rg), (A ++ B).length ≤ 100000 → hasR f t A = false → Ev (fun k => waystoneref05_Drop.l0 k (A ++ B) (A.length : Int) f t) (docDrop f t (A ++ B))
  | [], A, hl, hA => by
    refine Ev.step (fun k => by rw [waystoneref05_Drop.l0]) ?_
    simp only [List.append_nil, Int.lt_irrefl, if_false]
    exact evCast (Ev.now _) (by rw [docDrop, hA]; simp)
  | p :: B, A, hl, hA => by
    have hl2 : A.length + (B.length + 1) ≤ 100000 := by rw [List.length_append, List.length_cons] at hl; exact hl
    have h1 := len_app A B p
    have h0 : (0 : Int) ≤ (A.length : Int) := by omega
    have hw := wr1 A.length (by omega)
    refine Ev.step (fun k => by rw [waystoneref05_Drop.l0]) ?_
    simp only [h1, h0, if_true, rdR_app, hw]
    by_cases e : (p.f0 == f && p.f1 == t) = true
    · have hle : ((A.length : Nat) : Int) ≤ ((A ++ p :: B).length : Int) := by omega
      have hle2 : ((A.length + 1 : Nat) : Int) ≤ ((A ++ p :: B).length : Int) := by omega
      have h00 : (0 : Int) ≤ ((A.length + 1 : Nat) : Int) := by omega
      have htk : (A ++ p :: B).take A.length = A := by simp
      have hdr : (A ++ p :: B).drop (A.length + 1) = B := by rw [List.drop_append_of_le_length_aux]
      simp only [e, if_true, Option.bind_some, hle, hle2, h00, Int.toNat_natCast, htk, hdr, List.length_nil, Nat.zero_add, List.nil_append, show A.length < 17592186044416 from by omega, show A.length + B.length < 17592186044416 from by omega]
      refine evCast (Ev.now _) ?_
      have e2 : p.f0 = f ∧ p.f1 = t := by simpa using e
      rw [docDrop, hasR_app, hasR, e, Bool.true_or, Bool.or_true, if_pos rfl, del_app f t A _ hA, delP, if_pos e2]
    · simp only [e, if_false, Bool.false_eq_true]
      have e' : (p.f0 == f && p.f1 == t) = false := by simpa using e
      have ih := drop_l0 f t B (A ++ [p]) (by rw [List.append_assoc]; exact hl) (by rw [hasR_app, hA, hasR, hasR, e']; rfl)
      rw [List.append_assoc, List.length_append, List.length_singleton] at ih
      exact ih
where List.drop_append_of_le_length_aux {A B : List Rg} {p : Rg} : (A ++ p :: B).drop (A.length + 1) = B := by
        rw [List.drop_append]; simp
theorem drop_ev (f t : Int) (L : List Rg) (hl : L.length ≤ 100000) : Ev (fun k => waystoneref05_Drop.f k L f t) (docDrop f t L) := drop_l0 f t L [] hl rfl
def cntL (f t : Int) : List Rg → Nat
  | [] => 0
  | p :: L => (if (p.f0 == f && p.f1 == t) = true then 1 else 0) + cntL f t L
theorem cnt_le (f t : Int) : ∀ L : List Rg, cntL f t L ≤ L.length
  | [] => Nat.le_refl _
  | p :: L => by have := cnt_le f t L; simp only [cntL, List.length_cons]; split <;> omega
theorem count_l0 (f t : Int) : ∀ (B A : List Rg) (n : Nat), (A ++ B).length ≤ 100000 → n ≤ A.length → Ev (fun k => waystoneref05_Count.l0 k (A ++ B) (n : Int) (A.length : Int) f t) ((n + cntL f t B : Nat) : Int)
  | [], A, n, hl, hn => by
    refine Ev.step (fun k => by rw [waystoneref05_Count.l0]) ?_
    simp only [List.append_nil, Int.lt_irrefl, if_false]
    exact Ev.now _
  | p :: B, A, n, hl, hn => by
    have hl2 : A.length + (B.length + 1) ≤ 100000 := by rw [List.length_append, List.length_cons] at hl; exact hl
    have h1 := len_app A B p
    have h0 : (0 : Int) ≤ (A.length : Int) := by omega
    have hw := wr1 A.length (by omega)
    have hw2 := wr1 n (by omega)
    refine Ev.step (fun k => by rw [waystoneref05_Count.l0]) ?_
    simp only [h1, h0, if_true, rdR_app, hw, hw2]
    by_cases e : (p.f0 == f && p.f1 == t) = true
    · simp only [e, if_true]
      have ih := count_l0 f t B (A ++ [p]) (n + 1) (by rw [List.append_assoc]; exact hl) (by simp; omega)
      rw [List.append_assoc, List.length_append, List.length_singleton] at ih
      exact evCast ih (by rw [cntL, if_pos e]; omega)
    · simp only [e, if_false, Bool.false_eq_true]
      have ih := count_l0 f t B (A ++ [p]) n (by rw [List.append_assoc]; exact hl) (by simp; omega)
      rw [List.append_assoc, List.length_append, List.length_singleton] at ih
      exact evCast ih (by rw [cntL, if_neg e]; omega)
theorem count_ev (f t : Int) (L : List Rg) (hl : L.length ≤ 100000) : Ev (fun k => waystoneref05_Count.f k L f t) ((cntL f t L : Nat) : Int) := evCast (count_l0 f t L [] 0 hl (Nat.le_refl _)) (by simp)
theorem of_l0 (a : Int) : ∀ (B A : List Rg), (A ++ B).length ≤ 100000 → Ev (fun k => waystoneref05_Of.l0 k (A ++ B) a (A.length : Int)) ((A.length + ofA a B : Nat) : Int)
  | [], A, hl => by
    refine Ev.step (fun k => by rw [waystoneref05_Of.l0]) ?_
    simp only [List.append_nil, Int.lt_irrefl, if_false]
    exact Ev.now _
  | p :: B, A, hl => by
    have hl2 : A.length + (B.length + 1) ≤ 100000 := by rw [List.length_append, List.length_cons] at hl; exact hl
    have h1 := len_app A B p
    have h0 : (0 : Int) ≤ (A.length : Int) := by omega
    have hw := wr1 A.length (by omega)
    refine Ev.step (fun k => by rw [waystoneref05_Of.l0]) ?_
    simp only [h1, h0, if_true, rdR_app, hw]
    by_cases e : a > p.f1
    · simp only [e, if_true]
      have ih := of_l0 a B (A ++ [p]) (by rw [List.append_assoc]; exact hl)
      rw [List.append_assoc, List.length_append, List.length_singleton] at ih
      exact evCast ih (by rw [ofA, if_pos e]; omega)
    · simp only [e, if_false]
      exact evCast (Ev.now _) (by rw [ofA, if_neg e]; omega)
theorem of_ev (a : Int) (L : List Rg) (hl : L.length ≤ 100000) : Ev (fun k => waystoneref05_Of.f k L a) ((ofA a L : Nat) : Int) := evCast (of_l0 a L [] hl) (by simp)
theorem same_l0 : ∀ (B A : List Rg), (A ++ B).length ≤ 100000 → Ev (fun k => waystoneref03_Same.l0 k (A ++ B) (A ++ B) (A.length : Int)) true
  | [], A, hl => by
    refine Ev.step (fun k => by rw [waystoneref03_Same.l0]) ?_
    simp only [List.append_nil, Int.lt_irrefl, if_false]
    exact Ev.now _
  | p :: B, A, hl => by
    have hl2 : A.length + (B.length + 1) ≤ 100000 := by rw [List.length_append, List.length_cons] at hl; exact hl
    have h1 := len_app A B p
    have h0 : (0 : Int) ≤ (A.length : Int) := by omega
    have hw := wr1 A.length (by omega)
    refine Ev.step (fun k => by rw [waystoneref03_Same.l0]) ?_
    simp only [h1, h0, if_true, rdR_app, hw, beq_self_eq_true, Bool.not_true, Bool.or_self, Bool.false_eq_true, if_false]
    have ih := same_l0 B (A ++ [p]) (by rw [List.append_assoc]; exact hl)
    rw [List.append_assoc, List.length_append, List.length_singleton] at ih
    exact ih
theorem same_ev (L : List Rg) (hl : L.length ≤ 100000) : Ev (fun k => waystoneref03_Same.f k L L) true := by
  refine Ev.congr (fun k => by rw [waystoneref03_Same.f, if_pos rfl]) ?_
  exact same_l0 L [] hl
/-! Cuts. -/
def nxtF (last : Int) : Int → List Int → Int
  | nx, [] => nx
  | nx, a :: l => nxtF last (if last < a ∧ a < nx then a else nx) l
theorem nxt_is (last : Int) : ∀ (B : List Int) (nx : Int), (nxtF last nx B = nx ∨ (nxtF last nx B ∈ B ∧ last < nxtF last nx B)) ∧ nxtF last nx B ≤ nx ∧ ∀ a ∈ B, last < a → nxtF last nx B ≤ a
  | [], nx => ⟨.inl rfl, Int.le_refl _, fun a h => by cases h⟩
  | b :: B, nx => by
    obtain ⟨h1, h2, h3⟩ := nxt_is last B (if last < b ∧ b < nx then b else nx)
    simp only [nxtF]
    by_cases c : last < b ∧ b < nx
    · rw [if_pos c] at h1 h2 h3 ⊢
      refine ⟨.inr ?_, by omega, fun a ha hl => ?_⟩
      · rcases h1 with h1 | ⟨h1, h4⟩
        · rw [h1]; exact ⟨List.mem_cons_self .., c.1⟩
        · exact ⟨List.mem_cons_of_mem _ h1, h4⟩
      · rcases List.mem_cons.1 ha with rfl | ha
        · exact h2
        · exact h3 a ha hl
    · rw [if_neg c] at h1 h2 h3 ⊢
      refine ⟨?_, h2, fun a ha hl => ?_⟩
      · rcases h1 with h1 | ⟨h1, h4⟩
        · exact .inl h1
        · exact .inr ⟨List.mem_cons_of_mem _ h1, h4⟩
      · rcases List.mem_cons.1 ha with rfl | ha
        · omega
        · exact h3 a ha hl
theorem cuts_l2 (out : List Int) (last : Int) (r : List Int) : ∀ (B A : List Int) (nx : Int), (A ++ B).length ≤ 1000000 →
    Ev (fun k => if nxtF last nx B ≤ 4294967295 then (if out.length < 17592186044416 then (waystoneref03_Cuts.l1 k (A ++ B) (out ++ [nxtF last nx B]) (nxtF last nx B) (decide (nxtF last nx B ≤ 4294967295))) else none) else (waystoneref03_Cuts.l1 k (A ++ B) out last (decide (nxtF last nx B ≤ 4294967295)))) r →
    Ev (fun k => waystoneref03_Cuts.l2 k (A ++ B) out last nx (A.length : Int)) r
  | [], A, nx, hl, h => by
    refine Ev.step (fun k => by rw [waystoneref03_Cuts.l2]) ?_
    simp only [List.append_nil, Int.lt_irrefl, if_false] at h ⊢
    exact h
  | b :: B, A, nx, hl, h => by
    have hl2 : A.length + (B.length + 1) ≤ 1000000 := by rw [List.length_append, List.length_cons] at hl; exact hl
    have h1 := len_app A B b
    have h0 : (0 : Int) ≤ (A.length : Int) := by omega
    have hw := wr1 A.length (by omega)
    refine Ev.step (fun k => by rw [waystoneref03_Cuts.l2]) ?_
    simp only [h1, h0, if_true, rd_app, hw]
    have ih := cuts_l2 out last r B (A ++ [b]) (if last < b ∧ b < nx then b else nx) (by rw [List.append_assoc]; exact hl)
    rw [List.append_assoc, List.length_append, List.length_singleton] at ih
    have ih2 := ih h
    by_cases c1 : b > last
    · by_cases c2 : b < nx
      · simp only [c1, c2, if_true]
        rw [if_pos ⟨c1, c2⟩] at ih2
        exact ih2
      · simp only [c1, c2, if_true, if_false]
        rw [if_neg (fun h => c2 h.2)] at ih2
        exact ih2
    · simp only [c1, if_false]
      rw [if_neg (fun h => c1 h.1)] at ih2
      exact ih2
theorem cuts_l1 (all K : List Int) (hall : all.length ≤ 1000000) (hK : ∀ a, a ∈ K ↔ a ∈ all ∧ a ≤ 4294967295) (hKl : K.length ≤ 1000000) : ∀ (E D : List Int) (last : Int), K = D ++ E → (∀ a ∈ D, a ≤ last) → (∀ a ∈ E, last < a) → Up E → last ≤ 4294967295 →
    Ev (fun k => waystoneref03_Cuts.l1 k all D last true) K
  | [], D, last, hD, hd, he, hu, hlast => by
    obtain ⟨n1, n2, n3⟩ := nxt_is last all 4294967296
    refine Ev.step (fun k => by rw [waystoneref03_Cuts.l1]) ?_
    simp only [if_true]
    refine cuts_l2 D last K all [] 4294967296 hall ?_
    have hn : nxtF last 4294967296 all = 4294967296 := by
      rcases n1 with h | ⟨h1, h2⟩
      · exact h
      · rcases Decidable.em (nxtF last 4294967296 all ≤ 4294967295) with h3 | h3
        · have h4 := (hK _).2 ⟨h1, h3⟩
          rw [hD, List.append_nil] at h4
          have := hd _ h4
          omega
        · omega
    rw [hn]
    simp only [show ¬ (4294967296 : Int) ≤ 4294967295 from by omega, if_false, List.nil_append, decide_false]
    refine Ev.step (fun k => by rw [waystoneref03_Cuts.l1]) ?_
    simp only [Bool.false_eq_true, if_false]
    exact evCast (Ev.now _) (by rw [hD, List.append_nil])
  | e :: E, D, last, hD, hd, he, hu, hlast => by
    obtain ⟨n1, n2, n3⟩ := nxt_is last all 4294967296
    refine Ev.step (fun k => by rw [waystoneref03_Cuts.l1]) ?_
    simp only [if_true]
    refine cuts_l2 D last K all [] 4294967296 hall ?_
    have hu2 := List.pairwise_cons.1 hu
    have heK : e ∈ K := by rw [hD]; exact List.mem_append_right _ (List.mem_cons_self ..)
    have heA := (hK e).1 heK
    have hle := n3 e heA.1 (he e (List.mem_cons_self ..))
    have hn : nxtF last 4294967296 all = e := by
      rcases n1 with h | ⟨h1, h2⟩
      · omega
      · have h4 := (hK _).2 ⟨h1, by omega⟩
        rw [hD] at h4
        rcases List.mem_append.1 h4 with h5 | h5
        · have := hd _ h5; omega
        · rcases List.mem_cons.1 h5 with h6 | h6
          · exact h6
          · have := hu2.1 _ h6; omega
    rw [hn]
    have hDl : D.length < 17592186044416 := by
      have : K.length = D.length + (E.length + 1) := by rw [hD, List.length_append, List.length_cons]
      omega
    simp only [heA.2, hDl, if_true, List.nil_append, decide_true]
    exact cuts_l1 all K hall hK hKl E (D ++ [e]) e (by rw [hD, List.append_assoc]; rfl) (fun a ha => by
      rcases List.mem_append.1 ha with ha | ha
      · have := hd a ha; have := he e (List.mem_cons_self ..); omega
      · rw [List.mem_singleton.1 ha]; exact Int.le_refl _) hu2.1 hu2.2 heA.2
theorem allL_len : ∀ L : List Rg, (allL L).length = 2 * L.length
  | [] => rfl
  | p :: L => by simp only [allL, List.length_cons, allL_len L]; omega
theorem allL_app : ∀ L M : List Rg, allL (L ++ M) = allL L ++ allL M
  | [], M => rfl
  | p :: L, M => by simp only [List.cons_append, allL, allL_app L M]
theorem cuts_l0 (K : List Int) : ∀ (B A : List Rg), (A ++ B).length ≤ 100000 → (∀ p ∈ A ++ B, 0 ≤ p.f0 ∧ p.f0 ≤ p.f1 ∧ p.f1 ≤ 4294967295) → Ev (fun k => waystoneref03_Cuts.l1 k (0 :: allL (A ++ B)) [] (-1) true) K →
    Ev (fun k => waystoneref03_Cuts.l0 k (A ++ B) (0 :: allL A) (A.length : Int)) K
  | [], A, hl, hok, h => by
    refine Ev.step (fun k => by rw [waystoneref03_Cuts.l0]) ?_
    simp only [List.append_nil, Int.lt_irrefl, if_false] at h ⊢
    exact h
  | p :: B, A, hl, hok, h => by
    have hl2 : A.length + (B.length + 1) ≤ 100000 := by rw [List.length_append, List.length_cons] at hl; exact hl
    have h1 := len_app A B p
    have h0 : (0 : Int) ≤ (A.length : Int) := by omega
    have hw := wr1 A.length (by omega)
    obtain ⟨o1, o2, o3⟩ := hok p (List.mem_append_right _ (List.mem_cons_self ..))
    have w0 : wrap64 p.f0 = p.f0 := by unfold wrap64; omega
    have w1 : wrap64 p.f1 = p.f1 := by unfold wrap64; omega
    have w2 : wrap64 (p.f1 + 1) = p.f1 + 1 := by unfold wrap64; omega
    have hlen : (0 :: allL A).length + 2 < 17592186044416 := by rw [List.length_cons, allL_len]; omega
    refine Ev.step (fun k => by rw [waystoneref03_Cuts.l0]) ?_
    simp only [h1, h0, if_true, rdR_app, hw, w0, w1, w2, Option.bind_some, List.length_cons, List.length_nil, Nat.zero_add] at hlen ⊢
    simp only [show (allL A).length + 1 + (1 + 1) < 17592186044416 from hlen, if_true]
    have ih := cuts_l0 K B (A ++ [p]) (by rw [List.append_assoc]; exact hl) (by rw [List.append_assoc]; exact hok) (by rw [List.append_assoc]; exact h)
    rw [List.append_assoc, List.length_append, List.length_singleton, allL_app] at ih
    exact ih
theorem cuts_ev {m : Nat} {x : Tab} {L : List Rg} (h : Inv m x L) (hm : m ≤ 400) : Ev (fun k => waystoneref03_Cuts.f k L) (keysT x.b) := by
  have hl := h.len
  have hs := h.sb
  refine cuts_l0 (keysT x.b) L [] (by simp; omega) (by simpa using h.ok) ?_
  refine cuts_l1 (0 :: allL L) (keysT x.b) (by rw [List.length_cons, allL_len]; omega) h.keys (by rw [keys_len]; omega) (keysT x.b) [] (-1) rfl (fun a h => by cases h) (fun a ha => by have := (h.range a ha).1; omega) (keys_up h.b.1) (by omega)
theorem end_doc (K : List Int) (i : Nat) (hi : i < 1000000) (hK : ∀ a ∈ K, 0 ≤ a ∧ a ≤ 4294967295) : waystoneref03_End.f K (i : Int) = some (endK K i) := by
  unfold waystoneref03_End.f endK
  rw [wr1 i (by omega)]
  by_cases c : i + 1 < K.length
  · have hm := hK _ (List.getElem_mem c)
    rw [if_pos (by omega), if_pos (by omega), List.getElem?_eq_getElem c]
    have : rd K ((i + 1 : Nat) : Int) = K[i + 1] := by unfold rd; rw [Int.toNat_natCast, List.getD_eq_getElem?_getD, List.getElem?_eq_getElem c]; rfl
    rw [this]
    simp only [Option.some.injEq]
    unfold wrap64; omega
  · rw [if_neg (by omega), List.getElem?_eq_none (by omega)]
theorem atoms_l0 (K : List Int) (hK : ∀ a ∈ K, 0 ≤ a ∧ a ≤ 4294967295) (hu : Up K) (hl : K.length ≤ 100000) (d : Nat) : ∀ i : Nat, K.length - i = d → i ≤ K.length → Ev (fun k => waystoneref05_Atoms.l0 k K ((atomsK K).take i) (i : Int)) (atomsK K) := by
  have hal := atomsK_len K
  induction d with
  | zero =>
    intro i hd hi
    have hi2 : i = K.length := by omega
    subst hi2
    refine Ev.step (fun k => by rw [waystoneref05_Atoms.l0]) ?_
    simp only [Int.lt_irrefl, if_false]
    exact evCast (Ev.now _) (by rw [← hal, List.take_length])
  | succ d ih =>
    intro i hd hi
    have hlt : i < K.length := by omega
    have h1 : (i : Int) < (K.length : Int) := by omega
    have h0 : (0 : Int) ≤ (i : Int) := by omega
    have hw := wr1 i (by omega)
    have hr : rd K (i : Int) = K[i] := by unfold rd; rw [Int.toNat_natCast, List.getD_eq_getElem?_getD, List.getElem?_eq_getElem hlt]; rfl
    have hm := hK _ (List.getElem_mem hlt)
    have he : 0 ≤ endK K i ∧ endK K i ≤ 4294967295 := by
      unfold endK
      by_cases c : i + 1 < K.length
      · rw [List.getElem?_eq_getElem c]
        have h2 := hK _ (List.getElem_mem c)
        have h3 := List.pairwise_iff_getElem.1 hu i (i + 1) hlt c (Nat.lt_succ_self i)
        simp only []
        omega
      · rw [List.getElem?_eq_none (by omega)]; simp only []; omega
    have htl : ((atomsK K).take i).length < 17592186044416 := by rw [List.length_take]; omega
    refine Ev.step (fun k => by rw [waystoneref05_Atoms.l0]) ?_
    simp only [h1, h0, if_true, hr, hw, end_doc K i (by omega) hK, Option.bind_some, htl]
    have hat : (atomsK K)[i]? = some ⟨K[i], endK K i⟩ := by rw [atomsK_at, List.getElem?_eq_getElem hlt]; rfl
    have ht : (atomsK K).take i ++ [(⟨K[i] % 4294967296, endK K i % 4294967296⟩ : Rg)] = (atomsK K).take (i + 1) := by
      rw [Int.emod_eq_of_lt hm.1 (by omega), Int.emod_eq_of_lt he.1 (by omega), List.take_add_one, hat]; rfl
    rw [ht]
    exact ih (i + 1) (by omega) (by omega)
theorem atoms_ev {m : Nat} {x : Tab} {L : List Rg} (h : Inv m x L) (hm : m ≤ 400) : Ev (fun k => waystoneref05_Atoms.f k L) (atomsK (keysT x.b)) := by
  have hs := h.sb
  unfold waystoneref05_Atoms.f
  refine Ev.bind (cuts_ev h hm) ?_
  exact atoms_l0 (keysT x.b) h.range (keys_up h.b.1) (by rw [keys_len]; omega) _ 0 rfl (Nat.zero_le _)
end Go.Proofs.Ytjfbiabgeickjaa.H
/-! ### AtmT -/
namespace Go.Proofs.Ytjfbiabgeickjaa.H
open Go.RowKit Go.Proofs.Ytjfbiabgeickjaa.P Go.Proofs.YtjfbiabgeickjaaW.PrintWords Go.Proofs.YtjfbiabgeickjaaW.PrintLast Go.Proofs.YtjfbiabgeickjaaW.PrintMore
set_option linter.unusedVariables false
theorem key_eq {f t : Int} (h0 : 0 ≤ f) (h1 : f ≤ 4294967295) (h2 : 0 ≤ t) (h3 : t ≤ 4294967295) : keyF f t = f * 4294967296 + t := by
  have hw : ∀ m : Int, 0 ≤ m → m < 2 ^ 64 → IntKind.u64.wrap m = m := fun m a b => by
    have e : IntKind.u64.wrap m = m % 18446744073709551616 := by simp [IntKind.wrap, IntKind.bits, IntKind.signed]
    rw [e]; omega
  unfold keyF
  rw [hw f (by omega) (by omega), hw t (by omega) (by omega), hw (f * 4294967296) (by omega) (by omega)]
  exact bits_join .u64 64 (by decide) hw 32 _ _ (by omega) (by omega) (by omega) h2 (by omega) (by omega)
theorem key_inj {f t g u : Int} (h0 : 0 ≤ f) (h1 : f ≤ 4294967295) (h2 : 0 ≤ t) (h3 : t ≤ 4294967295) (g0 : 0 ≤ g) (g1 : g ≤ 4294967295) (g2 : 0 ≤ u) (g3 : u ≤ 4294967295) (h : keyF f t = keyF g u) : f = g ∧ t = u := by
  rw [key_eq h0 h1 h2 h3, key_eq g0 g1 g2 g3] at h; omega
theorem cR_cnt (f t : Int) (h0 : 0 ≤ f) (h1 : f ≤ 4294967295) (h2 : 0 ≤ t) (h3 : t ≤ 4294967295) : ∀ L : List Rg, (∀ p ∈ L, 0 ≤ p.f0 ∧ p.f0 ≤ p.f1 ∧ p.f1 ≤ 4294967295) → cR L (keyF f t) = (cntL f t L : Nat)
  | [], _ => rfl
  | p :: L, h => by
    obtain ⟨o1, o2, o3⟩ := h p (List.mem_cons_self ..)
    simp only [cR, cntL, cR_cnt f t h0 h1 h2 h3 L (fun q hq => h q (List.mem_cons_of_mem _ hq)), kP]
    by_cases e : (p.f0 == f && p.f1 == t) = true
    · have e2 : p.f0 = f ∧ p.f1 = t := by simpa using e
      rw [if_pos e, if_pos (by rw [e2.1, e2.2])]; omega
    · rw [if_neg e, if_neg]
      · omega
      · intro k
        obtain ⟨k1, k2⟩ := key_inj h0 h1 h2 h3 o1 (by omega) (by omega) o3 k
        rw [← k1, ← k2] at e; simp at e
theorem cnt_iff (f t : Int) : ∀ L : List Rg, hasR f t L = true ↔ cntL f t L ≠ 0
  | [] => by constructor <;> intro h; exact absurd h Bool.false_ne_true; exact absurd rfl h
  | p :: L => by
    have h1 : cntL f t (p :: L) = (if (p.f0 == f && p.f1 == t) = true then 1 else 0) + cntL f t L := rfl
    have h2 : hasR f t (p :: L) = ((p.f0 == f && p.f1 == t) || hasR f t L) := rfl
    rw [h1, h2, Bool.or_eq_true, cnt_iff f t L]
    by_cases e : (p.f0 == f && p.f1 == t) = true
    · rw [if_pos e]; constructor
      · intro _; omega
      · intro _; exact .inl e
    · rw [if_neg e]; constructor
      · rintro (h | h)
        · exact absurd h e
        · omega
      · intro h; exact .inr (by omega)
theorem cnt_has (f t : Int) (L : List Rg) : hasR f t L = decide (cntL f t L ≠ 0) := by
  have := cnt_iff f t L
  cases h : hasR f t L with
  | true => exact (decide_eq_true (this.1 h)).symm
  | false => exact (decide_eq_false (fun hc => by rw [this.2 hc] at h; cases h)).symm
theorem Inv.num {m : Nat} {x : Tab} {L : List Rg} (h : Inv m x L) (f t : Int) (h0 : 0 ≤ f) (h1 : f ≤ 4294967295) (h2 : 0 ≤ t) (h3 : t ≤ 4294967295) : numT (keyF f t) x.r = (cntL f t L : Nat) := by
  rw [rep_num h.r, cR_cnt f t h0 h1 h2 h3 L h.ok]
def doneL (d : Bool) (f t : Int) (L : List Rg) : List Rg := if d = true then (if hasR f t L = true then delP f t L else L) else (if t < f then L else L ++ [⟨f, t⟩])
def doneE (d : Bool) (f t : Int) (L : List Rg) : Int := if d = true then (if hasR f t L = true then 0 else 51) else (if t < f then 51 else 0)
def doneX (d : Bool) (f t : Int) (x : Tab) : Tab := if d = true then (if numT (keyF f t) x.r = 0 then x else withTab f t (-1) x) else (if t < f then x else withTab f t 1 x)
theorem Inv.does {m : Nat} {x : Tab} {L : List Rg} (h : Inv m x L) (hm : m ≤ 400) (d : Bool) (f t : Int) (h0 : 0 ≤ f) (h1 : f ≤ 4294967295) (h2 : 0 ≤ t) (h3 : t ≤ 4294967295) : Inv (m + 1) (doneX d f t x) (doneL d f t L) := by
  unfold doneX doneL
  cases d with
  | true =>
    rw [if_pos rfl, if_pos rfl]
    have hn := h.num f t h0 h1 h2 h3
    have hc := cnt_has f t L
    by_cases e : cntL f t L = 0
    · rw [if_pos (by rw [hn, e]; rfl), if_neg (by rw [hc, e]; simp)]; exact h.mono (by omega)
    · have hh : hasR f t L = true := by rw [hc]; simpa using e
      rw [if_neg (by rw [hn]; omega), if_pos hh]
      exact (h.drop hm f t ((hasR_iff f t L).1 hh)).2.2.mono (by omega)
  | false =>
    rw [if_neg Bool.false_ne_true, if_neg Bool.false_ne_true]
    by_cases e : t < f
    · rw [if_pos e, if_pos e]; exact h.mono (by omega)
    · rw [if_neg e, if_neg e]
      exact (h.add hm f t h0 (by omega) h3).2.2
theorem Inv.lim {m : Nat} {x : Tab} {L : List Rg} (h : Inv m x L) (hm : m ≤ 400) : sz x.b ≤ 40000 ∧ sz x.r ≤ 40000 ∧ -100000 ≤ x.n ∧ x.n ≤ 100000 ∧ x.n < 500 ∧ L.length < 500 := by
  have h1 := h.sb
  have h2 := h.sr
  have h3 := h.n
  have h4 := h.len
  omega
theorem Inv.addOk {m : Nat} {x : Tab} {L : List Rg} (h : Inv m x L) (hm : m ≤ 400) (f t : Int) (h0 : 0 ≤ f) (h3 : t ≤ 4294967295) : ¬ t < f → ¬ 500 ≤ x.n → moreOk (keyF f t) 1 x.r ∧ endsOk 1 (endsL f t) x.b := fun e _ => by
  have := h.add hm f t h0 (by omega) h3
  exact ⟨this.1, this.2.1⟩
theorem Inv.dropOk {m : Nat} {x : Tab} {L : List Rg} (h : Inv m x L) (hm : m ≤ 400) (f t : Int) (h0 : 0 ≤ f) (h1 : f ≤ 4294967295) (h2 : 0 ≤ t) (h3 : t ≤ 4294967295) : ¬ numT (keyF f t) x.r = 0 → moreOk (keyF f t) (-1) x.r ∧ endsOk (-1) (endsL f t) x.b := fun e => by
  rw [h.num f t h0 h1 h2 h3] at e
  have hh : hasR f t L = true := by rw [cnt_has]; simp; omega
  have := h.drop hm f t ((hasR_iff f t L).1 hh)
  exact ⟨this.1, this.2.1⟩
theorem Inv.add_tab_eq {m : Nat} {x : Tab} {L : List Rg} (h : Inv m x L) (hm : m ≤ 400) (f t : Int) : addTab f t x = if doneE false f t L = 0 then .ok (doneX false f t x) else .error (doneE false f t L) := by
  have := h.lim hm
  unfold addTab doneE doneX
  by_cases e : t < f
  · simp [e]
  · simp [e]; omega
theorem Inv.drop_tab_eq {m : Nat} {x : Tab} {L : List Rg} (h : Inv m x L) (f t : Int) (h0 : 0 ≤ f) (h1 : f ≤ 4294967295) (h2 : 0 ≤ t) (h3 : t ≤ 4294967295) : dropTab f t x = if doneE true f t L = 0 then .ok (doneX true f t x) else .error (doneE true f t L) := by
  have hn := h.num f t h0 h1 h2 h3
  have hc := cnt_has f t L
  unfold dropTab doneE doneX
  by_cases e : cntL f t L = 0
  · rw [if_pos (by rw [hn, e]; rfl), hc, e]; simp
  · have hh : hasR f t L = true := by rw [hc]; simpa using e
    have : ¬ numT (keyF f t) x.r = 0 := by rw [hn]; omega
    simp [hh, this]
theorem docAdd_eq (f t : Int) (L : List Rg) (h : L.length < 500) : docAdd f t L = if doneE false f t L = 0 then (doneL false f t L, 0) else ([], doneE false f t L) := by
  unfold docAdd doneE doneL
  by_cases e : t < f
  · simp [e]
  · simp [e]; omega
theorem docDrop_eq (f t : Int) (L : List Rg) : docDrop f t L = if doneE true f t L = 0 then (doneL true f t L, 0) else ([], doneE true f t L) := by
  unfold docDrop doneE doneL
  cases hasR f t L <;> simp
theorem done_no (d : Bool) (f t : Int) (L : List Rg) (h : doneE d f t L ≠ 0) : doneL d f t L = L := by
  unfold doneE at h; unfold doneL
  cases d with
  | true => cases hh : hasR f t L <;> simp [hh] at h ⊢
  | false => by_cases e : t < f <;> simp [e] at h ⊢
theorem Inv.done_no {m : Nat} {x : Tab} {L : List Rg} (hI : Inv m x L) (d : Bool) (f t : Int) (h0 : 0 ≤ f) (h1 : f ≤ 4294967295) (h2 : 0 ≤ t) (h3 : t ≤ 4294967295) (h : doneE d f t L ≠ 0) : doneX d f t x = x := by
  have hn := hI.num f t h0 h1 h2 h3
  have hc := cnt_has f t L
  unfold doneE at h; unfold doneX
  cases d with
  | true =>
    by_cases e : cntL f t L = 0
    · rw [if_pos rfl, if_pos (by rw [hn, e]; rfl)]
    · have hh : hasR f t L = true := by rw [hc]; simpa using e
      simp [hh] at h
  | false => by_cases e : t < f <;> simp [e] at h ⊢
theorem doneE_01 (d : Bool) (f t : Int) (L : List Rg) : doneE d f t L = 0 ∨ doneE d f t L = 51 := by
  unfold doneE
  cases d with
  | true => rw [if_pos rfl]; split <;> simp
  | false => rw [if_neg Bool.false_ne_true]; split <;> simp
end Go.Proofs.Ytjfbiabgeickjaa.H
/-! ### Atm7 -/
namespace Go.Proofs.Ytjfbiabgeickjaa.H
open Go.RowKit Go.Proofs.Ytjfbiabgeickjaa.P Go.Proofs.YtjfbiabgeickjaaW.PrintWords Go.Proofs.YtjfbiabgeickjaaW.PrintLast Go.Proofs.YtjfbiabgeickjaaW.PrintMore
set_option linter.unusedVariables false
set_option linter.unusedSimpArgs false
theorem wrapE {f : Int} (h0 : 0 ≤ f) (h1 : f ≤ 4294967296) : IntKind.u64.wrap f = f := by simp [IntKind.wrap, IntKind.bits, IntKind.signed]; omega
def withinTab (f t : Int) (x : Tab) : Value := if numT (keyF f t) x.r = 0 then .tuple #[.int .i64 0, .int .i64 0, .bool false] else .tuple #[.int .i64 (placeT f x.b : Nat), .int .i64 (placeT (t + 1) x.b : Nat), .bool true]
set_option maxRecDepth 20000 in
set_option maxHeartbeats 2000000 in
theorem within_tab (P : Option Addr) (x : Tab) (f t : Int) (w : World) (h : TabAtm w P x) (hs : sz x.b ≤ 40000) (hf0 : 0 ≤ f) (hf1 : f ≤ 4294967295) (ht0 : 0 ≤ t) (ht1 : t ≤ 4294967295) :
    Calls Try.prog 19 #[.pointer P, .agg #[.int .u32 f, .int .u32 t]] w fun e w' => e = .returned (withinTab f t x) ∧ Below w.heap.size w w' := by
  have hu := Try.underlying30
  have hb0 : Below w.heap.size w (w.alloc (.cells #[.int .u32 f, .int .u32 t] 30)) := (Below.refl w.heap.size w).alloc (Nat.le_refl _) _
  have HY := Aside0.mk (blk_new w (.cells #[.int .u32 f, .int .u32 t] 30))
  have h0 := h.below hb0
  have HB0 := Aside0.mk hb0
  have ho := own_some P x _ h0
  have hcn := count_any P x f t _ h0
  have HPL := Aside0.mk (fun (k : Int) (W : World) (hW : TabAtm W P x) => place_any P x k W hW hs)
  have HT0 := Aside0.mk h0
  clear h hb0 hs
  obtain ⟨g, pb, pr, rfl, _, _, _⟩ := h0
  have y0 := blk_cell HY.out 0
  have y1 := blk_cell HY.out 1
  have HA := Aside0.mk (show withinTab f t x = if numT (keyF f t) x.r = 0 then .tuple #[.int .i64 0, .int .i64 0, .bool false] else .tuple #[.int .i64 (placeT f x.b : Nat), .int .i64 (placeT (t + 1) x.b : Nat), .bool true] from rfl)
  generalize withinTab f t x = ra at *
  generalize numT (keyF f t) x.r = nn at *
  by_cases c1 : nn = 0
  · have HE := Aside0.mk (show ra = .tuple #[.int .i64 0, .int .i64 0, .bool false] from by rw [HA.out, if_pos c1])
    go_enter Try.func19, Try.ntmps19
    go_wp2_with fail
    generalize (w.alloc (.cells #[.int .u32 f, .int .u32 t] 30)) = w0 at *
    refine ho.mono ?_
    rintro e w1 ⟨rfl, rfl⟩
    clear ho
    go_wp2_with fail
    refine hcn.mono ?_
    rintro e w2 ⟨rfl, hb⟩
    have HB2 := Aside0.mk (HB0.out.trans (hb.mono HB0.out.size))
    clear hcn hb y0 y1
    go_wp2_with fail
    go_ret3
    rw [HE.out]
    exact ⟨rfl, HB2.out⟩
  · have HE := Aside0.mk (show ra = .tuple #[.int .i64 (placeT f x.b : Nat), .int .i64 (placeT (t + 1) x.b : Nat), .bool true] from by rw [HA.out, if_neg c1])
    go_enter Try.func19, Try.ntmps19
    go_wp2_with fail
    generalize (w.alloc (.cells #[.int .u32 f, .int .u32 t] 30)) = w0 at *
    refine ho.mono ?_
    rintro e w1 ⟨rfl, rfl⟩
    clear ho
    go_wp2_with fail
    refine hcn.mono ?_
    rintro e w2 ⟨rfl, hb⟩
    have HB2 := Aside0.mk (HB0.out.trans (hb.mono HB0.out.size))
    have HT2 := Aside0.mk (HT0.out.below hb)
    have z0 := cb y0 hb
    have z1 := cb y1 hb
    clear hcn hb y0 y1
    go_wp2_with fail
    have hc : w2.cell? ⟨w.heap.size, 0, none⟩ = some (.int .u32 f) ∧ w2.cell? ⟨w.heap.size, 1, none⟩ = some (.int .u32 t) := ⟨z0, z1⟩
    clear z0 z1
    have HCC := Aside0.mk hc
    have HBD := Aside0.mk (below_drew (Below.refl w2.heap.size w2))
    have HPA := Aside0.mk (HPL.out f w2.drew (HT2.out.below HBD.out))
    generalize hp1 : placeT f x.b = p1 at *
    have HWF := Aside0.mk (wrapE hf0 (by omega))
    have HWT := Aside0.mk (wrapE ht0 (by omega))
    have HWS := Aside0.mk (wrapE (f := t + 1) (by omega) (by omega))
    refine wp_region_held_drew (S := (fun w' => w'.cell? ⟨w.heap.size, 0, none⟩ = some (.int .u32 f) ∧ w'.cell? ⟨w.heap.size, 1, none⟩ = some (.int .u32 t))) (by kernel_rfl) ?hS0 (fun hHeld => ?_)
    case hS0 => (first | assumption | go_keep)
    refine held_take 0 (some 13) (v := ?v0) rfl rfl (by kernel_rfl) (by kernel_rfl) (by kernel_rfl) (fun _ _ _ h => h) (by rfl) ?y0 (by assumption) ?_
    case y0 => ((intro w hSw); (try dsimp only at hSw); go_simp <;> (with_reducible rfl))
    try simp only [Act.put, List.setIfInBounds_toArray, List.set_cons_zero, List.set_cons_succ]
    refine held_take 1 (some 14) (v := ?v1) rfl rfl (by kernel_rfl) (by kernel_rfl) (by kernel_rfl) (fun _ _ _ h => h) (by rfl) ?y1 (by assumption) ?_
    case y1 => ((intro w hSw); (try dsimp only at hSw); go_simp <;> (with_reducible rfl))
    try simp only [Act.put, List.setIfInBounds_toArray, List.set_cons_zero, List.set_cons_succ]
    refine held_take 2 (some 15) (v := ?v2) rfl rfl (by kernel_rfl) (by kernel_rfl) (by kernel_rfl) (fun _ _ _ h => h) (by rfl) ?y2 (by assumption) ?_
    case y2 => ((intro w hSw); (try dsimp only at hSw); go_simp <;> (with_reducible rfl))
    try simp only [Act.put, List.setIfInBounds_toArray, List.set_cons_zero, List.set_cons_succ]
    refine held_take 3 (some 16) (v := ?v3) rfl rfl (by kernel_rfl) (by kernel_rfl) (by kernel_rfl) (fun _ _ _ h => h) (by rfl) ?y3 (by assumption) ?_
    case y3 => ((intro w hSw); (try dsimp only at hSw); go_simp <;> (with_reducible rfl))
    try simp only [Act.put, List.setIfInBounds_toArray, List.set_cons_zero, List.set_cons_succ]
    refine held_take 5 (some 18) (v := ?v5) rfl rfl (by kernel_rfl) (by kernel_rfl) (by kernel_rfl) (fun _ _ _ h => h) (by rfl) ?y5 (by assumption) ?_
    case y5 => ((intro w hSw); (try dsimp only at hSw); go_simp <;> (with_reducible rfl))
    try simp only [Act.put, List.setIfInBounds_toArray, List.set_cons_zero, List.set_cons_succ]
    refine held_take 6 (some 19) (v := ?v6) rfl rfl (by kernel_rfl) (by kernel_rfl) (by kernel_rfl) (fun _ _ _ h => h) (by rfl) ?y6 (by assumption) ?_
    case y6 => ((intro w hSw); (try dsimp only at hSw); go_simp <;> (with_reducible rfl))
    try simp only [Act.put, List.setIfInBounds_toArray, List.set_cons_zero, List.set_cons_succ]
    refine held_take 7 (some 20) (v := ?v7) rfl rfl (by kernel_rfl) (by kernel_rfl) (by kernel_rfl) (fun _ _ _ h => h) (by rfl) ?y7 (by assumption) ?_
    case y7 => ((intro w hSw); (try dsimp only at hSw); go_simp <;> (with_reducible rfl))
    try simp only [Act.put, List.setIfInBounds_toArray, List.set_cons_zero, List.set_cons_succ]
    refine held_take 8 (some 21) (v := ?v8) rfl rfl (by kernel_rfl) (by kernel_rfl) (by kernel_rfl) (fun _ _ _ h => h) (by rfl) ?y8 (by assumption) ?_
    case y8 => ((intro w hSw); (try dsimp only at hSw); go_simp <;> (with_reducible rfl))
    try simp only [Act.put, List.setIfInBounds_toArray, List.set_cons_zero, List.set_cons_succ]
    refine held_take 9 (some 22) (v := ?v9) rfl rfl (by kernel_rfl) (by kernel_rfl) (by kernel_rfl) (fun _ _ _ h => h) (by rfl) ?y9 (by assumption) ?_
    case y9 => ((intro w hSw); (try dsimp only at hSw); go_simp <;> (with_reducible rfl))
    try simp only [Act.put, List.setIfInBounds_toArray, List.set_cons_zero, List.set_cons_succ]
    refine wpAnyH_ready (rs := [4]) (by kernel_rfl) (by simp) ?_
    refine AllReadyH.cons rfl (fun K hK => ?_) AllReadyH.nil
    go_simp
    (go_at_call 38; (try simp only [HWF.out, HWT.out, HWS.out]); refine HPA.out.mono ?_; rintro e w3 ⟨rfl, hb⟩; have HB3 := Aside0.mk (HBD.out.trans (hb.mono HBD.out.size)); have K1 : w3.cell? ⟨w.heap.size, 0, none⟩ = some (.int .u32 f) ∧ w3.cell? ⟨w.heap.size, 1, none⟩ = some (.int .u32 t) := ⟨cb HCC.out.1 HB3.out, cb HCC.out.2 HB3.out⟩; clear hb)
    refine hK.out _ _ ?hS5 (fun hHeld => ?_)
    case hS5 => (first | assumption | go_keep)
    clear hK K
    try simp only [Act.put, List.setIfInBounds_toArray, List.set_cons_zero, List.set_cons_succ]
    refine wpAnyH_ready (rs := [10]) (by kernel_rfl) (by simp) ?_
    refine AllReadyH.cons rfl (fun K hK => ?_) AllReadyH.nil
    go_simp
    (go_at_call 38; (try simp only [HWF.out, HWT.out, HWS.out]); refine (HPL.out (t + 1) _ (HT2.out.below HB3.out)).mono ?_; rintro e w4 ⟨rfl, hb⟩; have HB4 := Aside0.mk (HB3.out.trans (hb.mono HB3.out.size)); have K2 : w4.cell? ⟨w.heap.size, 0, none⟩ = some (.int .u32 f) ∧ w4.cell? ⟨w.heap.size, 1, none⟩ = some (.int .u32 t) := ⟨cb HCC.out.1 HB4.out, cb HCC.out.2 HB4.out⟩; clear hb)
    refine hK.out _ _ ?hS11 (fun hHeld => ?_)
    case hS11 => (first | assumption | go_keep)
    clear hK K
    try simp only [Act.put, List.setIfInBounds_toArray, List.set_cons_zero, List.set_cons_succ]
    refine held_take 11 (some 4) (v := ?v11) rfl rfl (by kernel_rfl) (by kernel_rfl) (by kernel_rfl) (fun _ _ _ h => h) (by rfl) ?y11 (by assumption) ?_
    case y11 => ((intro w hSw); (try dsimp only at hSw); go_simp <;> (with_reducible rfl))
    try simp only [Act.put, List.setIfInBounds_toArray, List.set_cons_zero, List.set_cons_succ]
    refine held_take 12 (some 5) (v := ?v12) rfl rfl (by kernel_rfl) (by kernel_rfl) (by kernel_rfl) (fun _ _ _ h => h) (by rfl) ?y12 (by assumption) ?_
    case y12 => ((intro w hSw); (try dsimp only at hSw); go_simp <;> (with_reducible rfl))
    try simp only [Act.put, List.setIfInBounds_toArray, List.set_cons_zero, List.set_cons_succ]
    refine held_take 13 (some 6) (v := ?v13) rfl rfl (by kernel_rfl) (by kernel_rfl) (by kernel_rfl) (fun _ _ _ h => h) (by rfl) ?y13 (by assumption) ?_
    case y13 => ((intro w hSw); (try dsimp only at hSw); go_simp <;> (with_reducible rfl))
    try simp only [Act.put, List.setIfInBounds_toArray, List.set_cons_zero, List.set_cons_succ]
    refine wpAnyH_done (by kernel_rfl) ?_ _
    go_wp2_with fail
    go_ret3
    rw [HE.out]
    exact ⟨rfl, HB2.out.trans (HB4.out.mono HB2.out.size)⟩
end Go.Proofs.Ytjfbiabgeickjaa.H
/-! ### Atm8 -/
namespace Go.Proofs.Ytjfbiabgeickjaa.H
open Go.RowKit Go.Proofs.Ytjfbiabgeickjaa.P Go.Proofs.YtjfbiabgeickjaaW.PrintWords Go.Proofs.YtjfbiabgeickjaaW.PrintLast Go.Proofs.YtjfbiabgeickjaaW.PrintMore
set_option linter.unusedVariables false
set_option linter.unusedSimpArgs false
/-- A table, or none: then it is an empty one. -/
def TabN (W : World) (P : Option Addr) (x : Tab) : Prop := TabAtm W P x ∨ (P = none ∧ x = newTab)
theorem TabN.below {W W' : World} {P : Option Addr} {x : Tab} (h : TabN W P x) (hb : Below W.heap.size W W') : TabN W' P x := h.imp (fun h => h.below hb) id
theorem own_any (P : Option Addr) (x : Tab) (w : World) (h : TabN w P x) : Calls Try.prog 28 #[.pointer P] w fun e w' => (∃ g pb pr, e = .returned (.pointer (some ⟨g, 0, none⟩)) ∧ w'.heap[g]? = some (.cells #[.pointer pb, .pointer pr, .int .i64 x.n] 63 (0, 0)) ∧ RootAt w' pb x.b ∧ RootAt w' pr x.r) ∧ Below w.heap.size w w' := by
  rcases h with h | ⟨rfl, rfl⟩
  · refine (own_some P x w h).mono ?_
    rintro e w' ⟨rfl, rfl⟩
    obtain ⟨g, pb, pr, rfl, h2, h3, h4⟩ := h
    exact ⟨⟨g, pb, pr, rfl, h2, h3, h4⟩, Below.refl _ _⟩
  · refine (own_none w).mono ?_
    rintro e w' ⟨⟨P, rfl, g, pb, pr, rfl, h2, h3, h4⟩, hb⟩
    exact ⟨⟨g, pb, pr, rfl, h2, h3, h4⟩, hb⟩
theorem at_in (t : T) (j : Int) (h : (atT t j).2 = true) : 0 ≤ j ∧ j < sz t ∧ (keysT t)[j.toNat]? = some (atT t j).1.1 := by
  unfold atT at h ⊢
  by_cases c : 0 ≤ j ∧ j < sz t
  · rw [if_pos c]
    refine ⟨c.1, c.2, ?_⟩
    have hl : j.toNat < (toL t).length := by rw [toL_len]; omega
    simp only [keysT, List.getElem?_map, List.getElem?_eq_getElem hl, List.getD_eq_getElem?_getD, Option.map_some, Option.getD_some]
  · rw [if_neg c] at h; cases h
theorem at_out (t : T) (j : Int) (h : (atT t j).2 = false) : ¬ (0 ≤ j ∧ j < sz t) := by
  unfold atT at h
  intro c
  rw [if_pos c] at h; cases h
def atomR (K : List Int) (i : Int) : Rg × Bool := if 0 ≤ i ∧ i < K.length then ((atomsK K).getD i.toNat ⟨0, 0⟩, true) else (⟨0, 0⟩, false)
set_option maxRecDepth 20000 in
set_option maxHeartbeats 2000000 in
theorem atom_any (P : Option Addr) (x : Tab) (i : Int) (w : World) (h : TabN w P x) (hs : sz x.b ≤ 40000) (hr : ∀ k ∈ keysT x.b, 0 ≤ k ∧ k ≤ 4294967295) (hu : Up (keysT x.b)) :
    Calls Try.prog 12 #[.pointer P, .int .i64 i] w fun e w' => e = .returned (.tuple #[.agg #[.int .u32 (atomR (keysT x.b) i).1.f0, .int .u32 (atomR (keysT x.b) i).1.f1], .bool (atomR (keysT x.b) i).2]) ∧ Below w.heap.size w w' := by
  have HB0 := Aside0.mk ((Below.refl w.heap.size w).alloc (Nat.le_refl _) (.cells #[.int .u32 0, .int .u32 0] 30))
  have HX0 := Aside0.mk (blk_new w (.cells #[.int .u32 0, .int .u32 0] 30))
  have ho := own_any P x _ (h.below HB0.out)
  have HSZ := Aside0.mk hs
  have HA := Aside0.mk (show atomR (keysT x.b) i = if 0 ≤ i ∧ i < (keysT x.b).length then ((atomsK (keysT x.b)).getD i.toNat ⟨0, 0⟩, true) else (⟨0, 0⟩, false) from rfl)
  generalize atomR (keysT x.b) i = res at *
  obtain ⟨⟨r0, r1⟩, rb⟩ := res
  simp only []
  have HI := Aside0.mk (at_in x.b)
  have HO := Aside0.mk (at_out x.b)
  have HK := Aside0.mk hr
  have HU := Aside0.mk hu
  clear h hs hr hu
  go_enter Try.func12, Try.ntmps12
  go_wp2_with fail
  generalize (w.alloc (.cells #[.int .u32 0, .int .u32 0] 30)) = w0 at *
  refine ho.mono ?_
  rintro e w1 ⟨⟨g, pb, pr, rfl, hg, hrb, hrr⟩, hb⟩
  have HB1 := Aside0.mk (HB0.out.trans (hb.mono HB0.out.size))
  have HX1 := Aside0.mk (blk_below HX0.out hb)
  have HRB := Aside0.mk hrb
  have x0 := blk_cell hg 0
  clear ho hb hrb hrr HB0 HX0 hg
  go_wp2_with fail
  have ha := at_any pb i x.b w1 HRB.out HSZ.out
  have HI1 := Aside0.mk (HI.out i)
  have HO1 := Aside0.mk (HO.out i)
  have HI2 := Aside0.mk (HI.out (i + 1))
  have HO2 := Aside0.mk (HO.out (i + 1))
  have HA2 := Aside0.mk (fun W hW => at_any pb (i + 1) x.b W hW HSZ.out)
  clear HI HO x0
  generalize atT x.b i = a1 at *
  generalize atT x.b (i + 1) = a2 at *
  obtain ⟨⟨k1, v1⟩, b1⟩ := a1
  obtain ⟨⟨k2, v2⟩, b2⟩ := a2
  simp only [] at ha HA2
  refine ha.mono ?_
  rintro e w2 ⟨rfl, hb⟩
  have HB2 := Aside0.mk (HB1.out.trans (hb.mono HB1.out.size))
  have HX2 := Aside0.mk (blk_below HX1.out hb)
  have HRB2 := Aside0.mk (HRB.out.below hb)
  clear ha hb HB1 HX1 HRB
  have hbn : Below w2.heap.size w2 (w2.alloc (.cells #[.int .u64 k1, .int .i64 v1] 66)) := (Below.refl w2.heap.size w2).alloc (Nat.le_refl _) _
  have HB3 := Aside0.mk (HB2.out.trans (hbn.mono HB2.out.size))
  have HX3 := Aside0.mk (blk_below HX2.out hbn)
  have HRB3 := Aside0.mk (HRB2.out.below hbn)
  have HP3 := Aside0.mk (blk_new w2 (.cells #[.int .u64 k1, .int .i64 v1] 66))
  clear hbn HB2 HX2 HRB2
  dsimp only
  repeat ((fail_if_success (show Code.wp _ (Code.seq (Code.region 3 _ _) _) _ _ _)); (first | go_values | go_skip | go_guarded | go_step | go_upon | go_back))
  generalize (w2.alloc (.cells #[.int .u64 k1, .int .i64 v1] 66)) = w3 at *
  generalize w2.heap.size = bp at *
  have k0 := blk_cell HX3.out 0
  have k3 := blk_cell HX3.out 1
  have f0 := blk_frozen HX3.out 0
  have f1 := blk_frozen HX3.out 1
  cases b1 with
  | false =>
    have HE := Aside0.mk (show (((⟨r0, r1⟩ : Rg), rb) = (⟨0, 0⟩, false)) from by
      have h1 := HO1.out rfl
      rw [HA.out, if_neg (by rw [keys_len]; exact h1)])
    go_wp2_with fail
    have he := HE.out
    injection he with he1 he2
    injection he1 with he3 he4
    subst he2; subst he3; subst he4
    have m1 := blk_set (blk_set HX3.out 0 (.int .u32 0)) 1 (.int .u32 0)
    have m2 := blk_cell m1 0
    have m3 := blk_cell m1 1
    have HBS := Aside0.mk ((HB3.out.setCell (p := ⟨w.heap.size, 0, none⟩) (Nat.le_refl _) (.int .u32 0)).setCell (p := ⟨w.heap.size, 1, none⟩) (Nat.le_refl _) (.int .u32 0))
    exact bodyPost_ret (v := .tuple #[.agg #[.int .u32 0, .int .u32 0], .bool false]) (by simp [results, Try.results12, go_sem, m2, m3]) rfl ⟨rfl, HBS.out⟩
  | true =>
    obtain ⟨i0, i1, i2⟩ := HI1.out rfl
    simp only [] at i2
    have HM1 := Aside0.mk (HK.out k1 (List.mem_of_getElem? i2))
    have hwi : wrap64 (i + 1) = i + 1 := by have := HSZ.out; unfold wrap64; omega
    have HWI := Aside0.mk hwi
    have HE := Aside0.mk (show (((⟨r0, r1⟩ : Rg), rb) = (⟨k1, endK (keysT x.b) i.toNat⟩, true)) from by
      rw [HA.out, if_pos ⟨i0, by rw [keys_len]; exact i1⟩, List.getD_eq_getElem?_getD, atomsK_at, i2]; rfl)
    have HE2 := Aside0.mk (show endK (keysT x.b) i.toNat = if b2 = true then k2 - 1 else 4294967295 from by
      unfold endK
      cases b2 with
      | true =>
        obtain ⟨j0, j1, j2⟩ := HI2.out rfl
        rw [show (i + 1).toNat = i.toNat + 1 from by omega] at j2
        rw [j2]; rfl
      | false =>
        have h1 := HO2.out rfl
        rw [List.getElem?_eq_none (by rw [keys_len]; omega)]; rfl)
    have HM2 := Aside0.mk (show b2 = true → 1 ≤ k2 ∧ k2 ≤ 4294967295 from fun e => by
      obtain ⟨j0, j1, j2⟩ := HI2.out e
      simp only [] at j2
      have h1 := HK.out k2 (List.mem_of_getElem? j2)
      rw [show (i + 1).toNat = i.toNat + 1 from by omega] at j2
      obtain ⟨q1, q2⟩ := List.getElem?_eq_some_iff.1 i2
      obtain ⟨q3, q4⟩ := List.getElem?_eq_some_iff.1 j2
      have h3 := List.pairwise_iff_getElem.1 HU.out i.toNat (i.toNat + 1) q1 q3 (Nat.lt_succ_self _)
      rw [q2, q4] at h3
      have h4 := HM1.out.1
      omega)
    generalize endK (keysT x.b) i.toNat = ek at *
    clear i0 i1 i2 HA HK HU HI1 HI2 HO1 HO2 hwi
    clear k0 k3 f0 f1
    go_wp2_with fail
    (try rw [HWI.out])
    refine (HA2.out _ HRB3.out).mono ?_
    rintro e w4 ⟨rfl, hb⟩
    have hbn : Below w4.heap.size w4 (w4.alloc (.cells #[.int .u64 k2, .int .i64 v2] 66)) := (Below.refl w4.heap.size w4).alloc (Nat.le_refl _) _
    have hb5 := hb.trans (hbn.mono hb.size)
    have HB5 := Aside0.mk (HB3.out.trans (hb5.mono HB3.out.size))
    have HX5 := Aside0.mk (blk_below HX3.out hb5)
    have HP5 := Aside0.mk (blk_below HP3.out hb5)
    have HQ5 := Aside0.mk (blk_new w4 (.cells #[.int .u64 k2, .int .i64 v2] 66))
    clear hb hbn hb5 HB3 HX3 HP3 HRB3 HA2
    dsimp only
    repeat ((fail_if_success (show Code.wp _ (Code.seq (Code.region 7 _ _) _) _ _ _)); (first | go_values | go_skip | go_guarded | go_step | go_upon | go_back))
    generalize (w4.alloc (.cells #[.int .u64 k2, .int .i64 v2] 66)) = w5 at *
    generalize w4.heap.size = bq at *
    have p0 := blk_cell HP5.out 0
    have q0 := blk_cell HQ5.out 0
    have k0 := blk_cell HX5.out 0
    have k3 := blk_cell HX5.out 1
    have f0 := blk_frozen HX5.out 0
    have f1 := blk_frozen HX5.out 1
    have h1a := HM1.out.1
    have h1b := HM1.out.2
    have hk1 : k1 % 4294967296 = k1 := Int.emod_eq_of_lt h1a (by omega)
    have he := HE.out
    injection he with he1 he2
    injection he1 with he3 he4
    subst he2; subst he3; subst he4
    cases b2 with
    | true =>
      obtain ⟨h2a, h2b⟩ := HM2.out rfl
      have HEK := Aside0.mk (show r1 = k2 - 1 from HE2.out)
      have hw2 : IntKind.u64.wrap (k2 - 1) = k2 - 1 := wrapE (by omega) (by omega)
      have hk2 : (k2 - 1) % 4294967296 = k2 - 1 := Int.emod_eq_of_lt (by omega) (by omega)
      go_wp2_with fail
      have m1 := blk_set (blk_set HX5.out 0 (.int .u32 r0)) 1 (.int .u32 (k2 - 1))
      have m2 := blk_cell m1 0
      have m3 := blk_cell m1 1
      have HBS := Aside0.mk ((HB5.out.setCell (p := ⟨w.heap.size, 0, none⟩) (Nat.le_refl _) (.int .u32 r0)).setCell (p := ⟨w.heap.size, 1, none⟩) (Nat.le_refl _) (.int .u32 (k2 - 1)))
      rw [HEK.out]
      exact bodyPost_ret (v := .tuple #[.agg #[.int .u32 r0, .int .u32 (k2 - 1)], .bool true]) (by simp [results, Try.results12, go_sem, m2, m3]) rfl ⟨rfl, HBS.out⟩
    | false =>
      have HEK := Aside0.mk (show r1 = 4294967295 from HE2.out)
      go_wp2_with fail
      have m1 := blk_set (blk_set HX5.out 0 (.int .u32 r0)) 1 (.int .u32 4294967295)
      have m2 := blk_cell m1 0
      have m3 := blk_cell m1 1
      have HBS := Aside0.mk ((HB5.out.setCell (p := ⟨w.heap.size, 0, none⟩) (Nat.le_refl _) (.int .u32 r0)).setCell (p := ⟨w.heap.size, 1, none⟩) (Nat.le_refl _) (.int .u32 4294967295))
      rw [HEK.out]
      exact bodyPost_ret (v := .tuple #[.agg #[.int .u32 r0, .int .u32 4294967295], .bool true]) (by simp [results, Try.results12, go_sem, m2, m3]) rfl ⟨rfl, HBS.out⟩
end Go.Proofs.Ytjfbiabgeickjaa.H
/-! ### TreeP -/
namespace Go.Proofs.Ytjfbiabgeickjaa.H
open Go.RowKit Go.Shelf Go.Proofs.Ytjfbiabgeickjaa.P Go.Proofs.YtjfbiabgeickjaaW.PrintWords Go.Proofs.YtjfbiabgeickjaaW.PrintLast Go.Proofs.YtjfbiabgeickjaaW.PrintMore
attribute [local go_sem] Oper.semAt_some
set_option linter.unusedVariables false
set_option linter.unusedSimpArgs false
theorem room_of_none {F : Fence} (hd : F.depth = none) (k : Nat) : F.room k := fun d h => by rw [hd] at h; cases h
theorem RoundIn.anyDepth {F : Fence} (hd : F.depth = none) {m m' : Nat} {P : Program} {l : Nat} {f : FuncId} {tmps : Array Value} {assign body : Code} {w : World} {R : Ending → World → Prop}
    (h : RoundIn F m P l f tmps assign body w R) : RoundIn F m' P l f tmps assign body w R := ⟨h.1, fun c cs _ => h.2 c cs (room_of_none hd _)⟩
theorem YieldAt.anyDepth {F : Fence} (hd : F.depth = none) {m : Nat} (m' : Nat) {P : Program} {l : Nat} {args : Array Value} {W : World} {R : Ending → World → Prop} (h : YieldAt F m P l args W R) : YieldAt F m' P l args W R := by
  obtain ⟨fn, tmps, assign, body, hy, hR⟩ := h
  exact ⟨fn, tmps, assign, body, hy, RoundIn.anyDepth hd hR⟩
/-- A tree in blocks below n₀. -/
def TreeB (n₀ : Nat) (W : World) : Option Addr → T → Prop
  | p, .leaf => p = none
  | p, .node l k v r => ∃ (g : Nat) (pl pr : Option Addr), p = some ⟨g, 0, none⟩ ∧ g < n₀ ∧ W.cell? ⟨g, 0, none⟩ = some (.int .u64 k) ∧ W.cell? ⟨g, 1, none⟩ = some (.int .i64 v) ∧ W.cell? ⟨g, 2, none⟩ = some (.pointer pl) ∧ W.cell? ⟨g, 3, none⟩ = some (.pointer pr) ∧ TreeB n₀ W pl l ∧ TreeB n₀ W pr r
theorem TreeB.below {n₀ : Nat} {A B : World} (h : Below n₀ A B) : ∀ {p : Option Addr} {t : T}, TreeB n₀ A p t → TreeB n₀ B p t
  | _, .leaf, ht => ht
  | _, .node _ _ _ _, ⟨g, pl, pr, hp, hb, h0, h1, h2, h3, hl, hr⟩ => ⟨g, pl, pr, hp, hb, (h.cell (p := ⟨g, 0, none⟩) hb).trans h0, (h.cell (p := ⟨g, 1, none⟩) hb).trans h1, (h.cell (p := ⟨g, 2, none⟩) hb).trans h2, (h.cell (p := ⟨g, 3, none⟩) hb).trans h3, TreeB.below h hl, TreeB.below h hr⟩
theorem TreeAt.toB {W : World} : ∀ {t : T} {p : Option Addr}, TreeAt W p t → TreeB W.heap.size W p t
  | .leaf, _, h => h
  | .node l k v r, _, ⟨g, pl, pr, h1, h2, h3, h4⟩ => ⟨g, pl, pr, h1, blk_lt h2, blk_cell h2 0, blk_cell h2 1, blk_cell h2 2, blk_cell h2 3, h3.toB, h4.toB⟩
theorem wpListIn_pass {F : Fence} {n : Nat} {P : Program} {ops : Array Oper} {Q : Exit → Act → World → Prop} {a : Act} {w : World} {rest : List Oper} {o : Oper} (hw : Region.wanted o (yielded ops a.tmps) = false) (ha : ∀ f, o.about P w a.eval = some f → F.fn f) (h : wpListIn F n P ops Q rest (a.put o.dst undef) w) : wpListIn F n P ops Q (o :: rest) a w := by
  simp only [wpListIn, hw]
  exact ⟨ha, h⟩
def encP (x : Int × Int) : Array Value := #[.agg #[.int .u64 x.1, .int .i64 x.2]]
set_option maxRecDepth 100000 in
set_option maxHeartbeats 4000000 in
theorem each_in (F : Fence) (hd : F.depth = none) (h6 : F.fn 53) (hro : F.round = none) (l n₀ N : Nat) (J Jx : List (Int × Int) → World → Prop)
    (hY : ∀ m pre x W, J pre W → pre.length < N → YieldAt F m Try.prog l #[.agg #[.int .u64 x.1, .int .i64 x.2]] W fun e W' =>
      (e = .returned (.bool true) ∧ J (pre ++ [x]) W' ∧ Below n₀ W W') ∨ (e = .returned (.bool false) ∧ Jx (pre ++ [x]) W')) (t : T) :
    ∀ (n : Nat) (p : Option Addr) (pre : List (Int × Int)) (W : World), TreeB n₀ W p t → J pre W → pre.length + (toL t).length ≤ N →
      CallsIn F n Try.prog 53 #[.pointer p, .func (.yield l) #[] #[]] W fun e W' =>
        (e = .returned (.bool true) ∧ J (pre ++ toL t) W' ∧ Below n₀ W W') ∨ (e = .returned (.bool false) ∧ ∃ q, q <+: toL t ∧ Jx (pre ++ q) W') := by
  induction t with
  | leaf =>
    intro n p pre W ht hJ _
    obtain rfl : p = none := ht
    refine callsIn_of_wp Try.func53 rfl h6 ?_ hro
    simp only [Try.ntmps53, List.size_toArray, List.length_cons, List.length_nil, Nat.reduceAdd, Nat.reduceSub, Array.replicate_succ, Array.replicate_zero, List.push_toArray, List.append_toArray, List.nil_append, List.cons_append]
    gi_wp2_with (first | (refine wpListIn_pass (by rfl) ?_ ?_; (intro f hf; first | (cases hf; exact h6) | (cases hf))))
    go_ret
    exact .inl ⟨rfl, by simpa [toL] using hJ, Below.refl _ _⟩
  | node tl k v tr ihl ihr =>
    intro n p pre W ht hJ hN
    obtain ⟨b, pl, pr, rfl, hb, c0, c1, c2, c3, hl, hr⟩ := ht
    have hdd : ∀ k : Nat, (F.depth.isSome = true → 1 ≤ k) := fun k h => by rw [hd] at h; cases h
    simp only [toL, List.length_append, List.length_cons] at hN
    have hy2 : ∀ W1, J (pre ++ toL tl) W1 → Below n₀ W W1 → YieldAt F (n - 1) Try.prog l #[.agg #[.int .u64 k, .int .i64 v]] W1 fun e W2 =>
        (e = .returned (.bool true) ∧ J (pre ++ toL tl ++ [(k, v)]) W2 ∧ Below n₀ W W2 ∧ W2.cell? ⟨b, 3, none⟩ = some (.pointer pr) ∧ TreeB n₀ W2 pr tr) ∨ (e = .returned (.bool false) ∧ Jx (pre ++ toL tl ++ [(k, v)]) W2) := fun W1 hJ1 hb1 =>
      YieldAt.mono (hY (n - 1) _ (k, v) W1 hJ1 (by simp; omega)) fun e W2 h => h.elim
        (fun ⟨he, hj, hb2⟩ => .inl ⟨he, hj, hb1.trans hb2, ((hb1.trans hb2).cell (p := ⟨b, 3, none⟩) hb).trans c3, hr.below (hb1.trans hb2)⟩) .inr
    have ih1 := (ihl (n - 1) pl pre W hl hJ (by omega)).mono (R' := fun e W1 =>
        (e = .returned (.bool true) ∧ W1.cell? ⟨b, 0, none⟩ = some (.int .u64 k) ∧ W1.cell? ⟨b, 1, none⟩ = some (.int .i64 v) ∧ YieldAt F (n - 1) Try.prog l #[.agg #[.int .u64 k, .int .i64 v]] W1 fun e W2 =>
          (e = .returned (.bool true) ∧ J (pre ++ toL tl ++ [(k, v)]) W2 ∧ Below n₀ W W2 ∧ W2.cell? ⟨b, 3, none⟩ = some (.pointer pr) ∧ TreeB n₀ W2 pr tr) ∨ (e = .returned (.bool false) ∧ Jx (pre ++ toL tl ++ [(k, v)]) W2)) ∨
        (e = .returned (.bool false) ∧ ∃ q, q <+: toL tl ∧ Jx (pre ++ q) W1))
      (fun e W1 h => h.elim (fun ⟨he, hj, hb1⟩ => .inl ⟨he, (hb1.cell (p := ⟨b, 0, none⟩) hb).trans c0, (hb1.cell (p := ⟨b, 1, none⟩) hb).trans c1, hy2 W1 hj hb1⟩) .inr)
    clear hy2 ihl
    refine callsIn_of_wp Try.func53 rfl h6 ?_ hro
    simp only [Try.ntmps53, List.size_toArray, List.length_cons, List.length_nil, Nat.reduceAdd, Nat.reduceSub, Array.replicate_succ, Array.replicate_zero, List.push_toArray, List.append_toArray, List.nil_append, List.cons_append]
    gi_wp2_with (first
      | ((try refine ⟨hdd _, ?_⟩); gi_at_call 53; refine ih1.mono ?_; clear ih1; rintro e W1 (⟨rfl, c0', c1', fn, tmps, assign, body, hy, hR⟩ | ⟨rfl, q, hq, hx1⟩))
      | ((try refine ⟨hdd _, ?_⟩); refine hR.mono ?_; clear hR; rintro e W2 (⟨rfl, hJ2, hb2, c2', hr2⟩ | ⟨rfl, hx2⟩))
      | ((try refine ⟨hdd _, ?_⟩); gi_at_call 53; refine (ihr (n - 1) pr _ _ hr2 hJ2 (by simp; omega)).mono ?_; rintro e W3 (⟨rfl, hJ3, hb3⟩ | ⟨rfl, q, hq, hx3⟩)))
    · go_ret
      exact .inl ⟨rfl, by simpa [toL, List.append_assoc] using hJ3, hb2.trans hb3⟩
    · go_ret
      obtain ⟨r, hr'⟩ := hq
      exact .inr ⟨rfl, toL tl ++ (k, v) :: q, ⟨r, by simp [toL, ← hr']⟩, by simpa [List.append_assoc] using hx3⟩
    · go_ret
      exact .inr ⟨rfl, toL tl ++ [(k, v)], ⟨toL tr, by simp [toL]⟩, by simpa [List.append_assoc] using hx2⟩
    · refine ⟨fun _ h => (by cases h), ?_⟩
      gi_wp2
      go_ret
      exact .inr ⟨rfl, q, hq.trans (by simp [toL]), hx1⟩
set_option maxHeartbeats 1000000 in
theorem all1_in (F : Fence) (hd : F.depth = none) (n : Nat) (h5 : F.fn 52) (h6 : F.fn 53) (hro : F.round = none) (l Bt n₀ : Nat) (p0 : Option Addr) (t : T) (J Jx : List (Int × Int) → World → Prop)
    (hY : ∀ pre x W, J pre W → pre.length < (toL t).length → YieldAt F (n - 1) Try.prog l #[.agg #[.int .u64 x.1, .int .i64 x.2]] W fun e W' =>
      (e = .returned (.bool true) ∧ J (pre ++ [x]) W' ∧ Below n₀ W W') ∨ (e = .returned (.bool false) ∧ Jx (pre ++ [x]) W'))
    (W : World) (hBt : W.cell? ⟨Bt, 0, none⟩ = some (.pointer p0)) (hT : TreeB n₀ W p0 t) (h0 : J [] W) :
    CallsIn F n Try.prog 52 #[.func (.yield l) #[] #[], .pointer (some ⟨Bt, 0, none⟩)] W fun e W' => (∃ v, e = .returned v) ∧
      ((∃ ys, ys = toL t ∧ J ys W') ∨ (∃ pre, pre <+: toL t ∧ Jx pre W')) := by
  have hdd : ∀ k : Nat, (F.depth.isSome = true → 1 ≤ k) := fun k h => by rw [hd] at h; cases h
  have hp := each_in F hd h6 hro l n₀ (toL t).length J Jx (fun m pre x W hj hl => YieldAt.anyDepth hd m (hY pre x W hj hl)) t (n - 1) p0 [] W hT h0 (by simp)
  refine callsIn_of_wp Try.func52 rfl h5 ?_ hro
  simp only [Try.ntmps52, List.size_toArray, List.length_cons, List.length_nil, Nat.reduceAdd, Nat.reduceSub, Array.replicate_succ, Array.replicate_zero, List.push_toArray, List.append_toArray, List.nil_append, List.cons_append]
  gi_wp2_with ((try refine ⟨hdd _, ?_⟩); gi_at_call 53; refine hp.mono ?_; clear hp; rintro e W1 (⟨rfl, hJ1, _⟩ | ⟨rfl, q, hq, hx⟩))
  · go_end0
    exact ⟨⟨_, rfl⟩, .inl ⟨_, rfl, by simpa using hJ1⟩⟩
  · go_end0
    exact ⟨⟨_, rfl⟩, .inr ⟨q, hq, by simpa using hx⟩⟩
set_option maxHeartbeats 1000000 in
theorem all_in (F : Fence) (n : Nat) (h4 : F.fn 47) (hro : F.round = none) (p0 : Option Addr) (w : World) :
    CallsIn F n Try.prog 47 #[.pointer p0] w fun e w' => e = .returned (.func (.func 52) #[] #[.pointer (some ⟨w.heap.size, 0, none⟩)]) ∧ w' = w.alloc (.cells #[.pointer p0] 82) := by
  refine callsIn_of_wp Try.func47 rfl h4 ?_ hro
  simp only [Try.ntmps47, List.size_toArray, List.length_cons, List.length_nil, Nat.reduceAdd, Nat.reduceSub, Array.replicate_succ, Array.replicate_zero, List.push_toArray, List.append_toArray, List.nil_append, List.cons_append]
  gi_wp2
  go_ret
  exact ⟨rfl, rfl⟩
theorem all_stops (F : Fence) (hd : F.depth = none) (n : Nat) (h5 : F.fn 52) (h6 : F.fn 53) (hro : F.round = none) (Bt n₀ : Nat) (p0 : Option Addr) (t : T) (w : World) (hBt : Bt < w.heap.size) (hn₀ : n₀ ≤ w.heap.size)
    (hc : w.cell? ⟨Bt, 0, none⟩ = some (.pointer p0)) (hT : TreeB n₀ w p0 t) :
    SeqStopsK F n Try.prog 52 #[.pointer (some ⟨Bt, 0, none⟩)] (fun x : Int × Int => #[Value.agg #[.int .u64 x.1, .int .i64 x.2]]) (Below n₀) (fun ys => ys = toL t) (fun pre => pre <+: toL t) (toL t).length w := fun l J Jx W hW _ _ hY h0 =>
  all1_in F hd n h5 h6 hro l Bt n₀ p0 t J Jx hY W ((hW.cell (p := ⟨Bt, 0, none⟩) hBt).trans hc) (hT.below (hW.mono hn₀)) h0
end Go.Proofs.Ytjfbiabgeickjaa.H
/-! ### TreeQ -/
namespace Go.Proofs.Ytjfbiabgeickjaa.H
open Go.RowKit Go.Shelf Go.Proofs.Ytjfbiabgeickjaa.P Go.Proofs.YtjfbiabgeickjaaW.PrintWords Go.Proofs.YtjfbiabgeickjaaW.PrintLast Go.Proofs.YtjfbiabgeickjaaW.PrintMore
attribute [local go_sem] Oper.semAt_some
set_option linter.unusedVariables false
set_option linter.unusedSimpArgs false
structure S50 where
  f0 : Int
  f1 : Int
def k50 : Kd S50 := Kd.iso (Kd.pair (Kd.int .u64) (Kd.int .i64)) (fun x : S50 => (x.f0, x.f1))
theorem k50_open {w : World} {x : S50} {cs : List Value} (h : k50.K w x cs) : cs = [.int .u64 x.f0, .int .i64 x.f1] := by
  obtain ⟨_, _, rfl, rfl, rfl⟩ := h
  exact rfl
theorem k50_mkM (w : World) (base : Nat) (ok : Nat → Prop) (x : S50) : k50.M w base ok x [.int .u64 x.f0, .int .i64 x.f1] := ⟨[.int .u64 x.f0], [.int .i64 x.f1], rfl, rfl, rfl⟩
def encT (L : List (Int × Int)) : List S50 := L.map fun p => ⟨p.1, p.2⟩
theorem encT_len (L : List (Int × Int)) : (encT L).length = L.length := List.length_map _
def rd_T50 (xs : List S50) (i : Int) : S50 := xs.getD i.toNat ⟨0, 0⟩
theorem at_T50 {w : World} {A : Option Addr} {n : Nat} {xs : List S50} (h : Kd.C k50 w A n xs) (i : Int) (h0 : 0 ≤ i) (h1 : i < n) : ∃ ad , A = some ad ∧ w.cell? (ad.add (i.toNat * 2)) = some (.int .u64 (rd_T50 xs i).f0) ∧ w.cell? ⟨(ad.add (i.toNat * 2)).block, (ad.add (i.toNat * 2)).off + 1, none⟩ = some (.int .i64 (rd_T50 xs i).f1) := by
  obtain ⟨ad, c, e, _, hK, hc0⟩ := Kd.C_get h ⟨0, 0⟩ i h0 h1
  have hc : ∀ j u, c[j]? = some u → w.cell? (ad.add (i.toNat * 2 + j)) = some u := hc0
  obtain rfl := k50_open hK
  exact ⟨ad, e, hc 0 _ rfl, by rw [← add_field _ _ 1 (by omega)]; exact hc 1 _ rfl⟩
theorem top_at (P : Option Addr) (t : T) (w : World) (h : RootAt w P t) : ∃ p, TreeAt w p t ∧ ∀ W, Below w.heap.size w W → Calls Try.prog 41 #[.pointer P] W fun e w' => e = .returned (.pointer p) ∧ w' = W := by
  rcases h with ⟨rfl, rfl⟩ | ⟨g, p, rfl, hg, ht⟩
  · refine ⟨none, rfl, fun W _ => ?_⟩
    go_enter Try.func41, Try.ntmps41
    go_wp2_with fail
    go_ret
    exact ⟨rfl, rfl⟩
  · refine ⟨p, ht, fun W hb => ?_⟩
    have c0 := blk_cell (blk_below hg hb) 0
    clear hg ht hb
    go_enter Try.func41, Try.ntmps41
    go_wp2_with fail
    go_ret
    exact ⟨rfl, rfl⟩
theorem info66 : (Try.prog.info? 66).map (fun i => (i.zero, i.size, i.bytes)) = some (some (.agg #[.int .u64 0, .int .i64 0]), 2, 16) := by kernel_rfl
theorem cell_two_new (W : World) (a b : Value) (t : TypeId) : ∀ j u, [a, b][j]? = some u → (W.alloc (.cells #[a, b] t)).cell? ((⟨W.heap.size, 0, none⟩ : Addr).add j) = some u := by
  intro j u h
  have hb := blk_new W (.cells #[a, b] t)
  match j, h with
  | 0, h => simp at h; subst h; exact blk_cell hb 0
  | 1, h => simp at h; subst h; exact blk_cell hb 1
def cellsL (L : List (Int × Int)) : List Value := L.flatMap fun x => [.int .u64 x.1, .int .i64 x.2]
theorem cellsL_snoc (L : List (Int × Int)) (x : Int × Int) : cellsL (L ++ [x]) = cellsL L ++ [.int .u64 x.1, .int .i64 x.2] := by simp [cellsL]
theorem cellsL_len : ∀ L : List (Int × Int), (cellsL L).length = L.length * 2
  | [] => rfl
  | x :: t => by
    have := cellsL_len t
    show (Value.int .u64 x.1 :: Value.int .i64 x.2 :: cellsL t).length = _
    rw [List.length_cons, List.length_cons, this, List.length_cons]
    omega
theorem cellsL_at : ∀ (L : List (Int × Int)) (j : Nat) (p : Int × Int), L[j]? = some p → ((cellsL L).drop (j * 2)).take 2 = [.int .u64 p.1, .int .i64 p.2]
  | [], j, p, h => by simp at h
  | x :: t, 0, p, h => by
    simp at h
    subst h
    rfl
  | x :: t, j + 1, p, h => by
    have := cellsL_at t j p (by simpa using h)
    rw [show (j + 1) * 2 = j * 2 + 1 + 1 by omega]
    exact this
theorem row_C {W : World} {base : Nat} {v : Value} {L : List (Int × Int)} (h : W.ownsRow base 66 2 v L.length (cellsL L)) : ∃ A c, v = .slice A (encT L).length c ∧ (encT L).length ≤ c ∧ Kd.C k50 W A (encT L).length (encT L) := by
  have hR : Kd.R k50 66 W base (fun _ => True) v (encT L) := by
    refine ⟨fun _ _ => trivial, cellsL L, by rw [encT_len]; exact h, by rw [encT_len]; exact cellsL_len L, fun j p hj => ?_⟩
    have hj' : (L.map fun p => (⟨p.1, p.2⟩ : S50))[j]? = some p := hj
    rw [List.getElem?_map] at hj'
    obtain ⟨q, hq, rfl⟩ := Option.map_eq_some_iff.1 hj'
    show k50.M _ _ _ _ (((cellsL L).drop (j * 2)).take 2)
    rw [cellsL_at L j q hq]
    exact k50_mkM _ _ _ _
  exact Kd.R_reads hR
set_option maxRecDepth 100000 in
set_option maxHeartbeats 4000000 in
theorem pairs_any (P : Option Addr) (t : T) (w : World) (h : RootAt w P t) (hs : sz t ≤ 40000) :
    Calls Try.prog 39 #[.pointer P] w fun e W' => (∃ A c, e = .returned (.slice A (encT (toL t)).length c) ∧ (encT (toL t)).length ≤ c ∧ Kd.C k50 W' A (encT (toL t)).length (encT (toL t))) ∧ Below w.heap.size w W' := by
  obtain ⟨p, hT, htop⟩ := top_at P t w h
  have hTB := hT.toB
  have hN : (toL t).length ≤ 40000 := by rw [toL_len]; exact hs
  clear h hs hT
  obtain ⟨i0, hi, hz0, hz1, hz2⟩ := info_parts info66
  refine (callsIn_wide (n := 9)).1 ?_
  have h1 : 1 ≤ 9 := by omega
  refine callsIn_of_wp_marks Try.func39 rfl trivial ?_ rfl
  simp only [Try.ntmps39, List.size_toArray, List.length_cons, List.length_nil, Nat.reduceAdd, Nat.reduceSub, Array.replicate_succ, Array.replicate_zero, List.push_toArray, List.append_toArray, List.nil_append, List.cons_append]
  gi_wp2_with (first
    | (refine ⟨trivial, ?_⟩; gi_at_call 41; refine (callsIn_wide.2 (htop _ ((Below.refl _ w).alloc (Nat.le_refl _) _))).mono ?_; rintro e w' ⟨rfl, rfl⟩)
    | (refine ⟨trivial, ?_⟩; gi_at_call 47; refine (all_in Fence.wide _ trivial rfl _ _).mono ?_; rintro e w' ⟨rfl, rfl⟩))
  have bO := (Boxed.new w 78 (.slice none 0 0)).alloc (.cells #[.pointer p] 82)
  have bN := Boxed.new (w.alloc (.cells #[.slice none 0 0] 78)) 82 (.pointer p)
  rw [World.size_alloc] at bN
  have hB0 : Below w.heap.size w ((w.alloc (.cells #[.slice none 0 0] 78)).alloc (.cells #[.pointer p] 82)) := ((Below.refl _ w).alloc (Nat.le_refl _) _).alloc (by simp) _
  have hsz : ((w.alloc (.cells #[.slice none 0 0] 78)).alloc (.cells #[.pointer p] 82)).heap.size = w.heap.size + 2 := by simp
  obtain ⟨W0, hW0⟩ : ∃ W0, (w.alloc (.cells #[.slice none 0 0] 78)).alloc (.cells #[.pointer p] 82) = W0 := ⟨_, rfl⟩
  try simp only [World.size_alloc]
  rw [hW0] at bO bN hB0 hsz ⊢
  clear hW0 htop
  refine wpIn_rangeFunc_ownH rfl h1 (gf := 52) (lb := #[.pointer (some ⟨w.heap.size + 1, 0, none⟩)]) rfl trivial (enters_of Try.func52 (by kernel_rfl) rfl)
    (all_stops Fence.wide rfl (9 - 1) trivial trivial rfl (w.heap.size + 1) w.heap.size p t W0 (by omega) (by omega) bN.cell (hTB.below hB0)) belowK_t (belowK_b (by omega)) (Below.refl _ _) (fun _ => rfl)
    (fun pre W => (∃ v, Boxed W w.heap.size 78 v ∧ W.ownsRow w.heap.size 66 2 v pre.length (cellsL pre) ∧ True) ∧ Below w.heap.size w W)
    (fun _ _ _ => False)
    (OwnFrom.and (Own.from (holdsRow_own w.heap.size w.heap.size 78 66 2 (fun pre : List (Int × Int) => pre.length) (fun pre => cellsL pre) (fun _ _ => True)) _) (ownFrom_below (Nat.le_refl _) (by omega)))
    (fun _ _ _ _ _ hs _ _ => hs)
    ⟨⟨_, bO, World.ownsRow_nil _ _ _ _, trivial⟩, hB0⟩
    (fun x a' W => ∃ Bx, w.heap.size < Bx ∧ W.heap[Bx]? = some (.cells #[.int .u64 x.1, .int .i64 x.2] 66 (0, 0)) ∧ a' = { tmps := #[.pointer P, undef, .slice none 0 0, .pointer (some ⟨w.heap.size, 0, none⟩), .pointer (some ⟨Bx, 0, none⟩), .pointer P, .pointer p, .func (.func 52) #[] #[.pointer (some ⟨w.heap.size + 1, 0, none⟩)], .agg #[.int .u64 x.1, .int .i64 x.2], undef, undef, undef, undef, undef], defers := [] })
    (fun x a' _ X Y row hs hg hr => by
      obtain ⟨Bx, h1, h2, h3⟩ := hs
      refine ⟨Bx, h1, blk_grown h2 hg (fun e' => ?_), h3⟩
      obtain ⟨o, ho, hc⟩ := (hr Bx e'.symm).2
      rw [h2] at ho; cases ho; cases hc)
    ?assign ?body ?done ?stop
  case assign =>
    rintro l pre x W K ⟨⟨v, hv, hrow, _⟩, hB1⟩ hK
    gi_wp2
    exact hK _ _ ((KeepsOthers.alloc _ _).from _) ((Below.refl _ W).alloc hB1.size _) ⟨⟨v, hv.alloc _, hrow.alloc _, trivial⟩, hB1.alloc hB1.size _⟩ ⟨W.heap.size, hv.lt, blk_new W _, rfl⟩
  case body =>
    rintro l pre x a' W hl ⟨r, hr⟩ ⟨⟨v, hv, hrow, _⟩, hB1⟩ ⟨Bx, hBx, bX, rfl⟩ hlt
    have hc := hv.cell
    have x0 := blk_cell bX 0
    have x1 := blk_cell bX 1
    gi_wp2_with (gi_at_builtin; refine wpListIn_append_own _ rfl _ _ 78 rfl w.heap.size 66 i0 (.agg #[.int .u64 0, .int .i64 0]) 2 16 Try.underlying78 hi hz0 hz1 hz2 rfl (by decide) _ _ _ rfl (hrow.alloc _) ⟨W.heap.size, 0, none⟩ 1 1 [.int .u64 x.1, .int .i64 x.2] rfl rfl (cell_two_new _ _ _ _) (by simp [Value.oneCell']) (by unfold maxLen; omega) (by omega) (by have := hB1.size; simp; omega) ?_; intro v' w1 hown' hgrow _; obtain ⟨g', cap', rfl⟩ := ownsRow_succ hown'; obtain ⟨hv1, hv2, hr2, hk2, hb2⟩ := hv.appended (by decide) hrow hB1.size (Nat.le_refl _) hown' hgrow; have hc1 := hv1.cell; have hf1 := hv1.frozen)
    exact ⟨hk2.from _, hb2, ⟨_, hv2, by rw [cellsL_snoc, List.length_append]; exact hr2, trivial⟩, hB1.trans hb2⟩
  case done =>
    rintro D ys W hD rfl ⟨⟨v, hv, hrow, _⟩, hB⟩ hK
    have hc := hv.cell
    gi_wp2
    refine ⟨by simp, .inl ⟨_, _, rfl, run_takeDeferred hK, ?_⟩⟩
    obtain ⟨A, c, rfl, hcl, hC⟩ := row_C (ownsRow_putObj hrow (.deferred none) hK rfl)
    exact ⟨_, results_tmp rfl _ _ _, ⟨A, c, rfl, hcl, hC⟩, hB.trans (belowK_b (w := w) (Nat.le_refl _) W D _ _ (by omega) hK rfl rfl)⟩
  case stop =>
    rintro D c pre W _ _ h _
    exact h.elim
end Go.Proofs.Ytjfbiabgeickjaa.H
/-! ### Atm9 -/
namespace Go.Proofs.Ytjfbiabgeickjaa.H
open Go.RowKit Go.Proofs.Ytjfbiabgeickjaa.P Go.Proofs.YtjfbiabgeickjaaW.PrintWords Go.Proofs.YtjfbiabgeickjaaW.PrintLast Go.Proofs.YtjfbiabgeickjaaW.PrintMore
set_option linter.unusedVariables false
set_option linter.unusedSimpArgs false
def rgOf (k : Int) : Rg := ⟨k / 4294967296 % 4294967296, k % 4294967296⟩
def rangesT (t : T) : List Rg := (toL t).map fun p => rgOf p.1
theorem ranges_len (t : T) : (rangesT t).length = sz t := by unfold rangesT; rw [List.length_map, toL_len]
theorem ranges_take (t : T) (j : Nat) (h : j < sz t) : (rangesT t).take (j + 1) = (rangesT t).take j ++ [rgOf (rd_T50 (encT (toL t)) (j : Int)).f0] := by
  have hl : j < (toL t).length := by rw [toL_len]; exact h
  have hat : (rangesT t)[j]? = some (rgOf (rd_T50 (encT (toL t)) (j : Int)).f0) := by
    unfold rangesT rd_T50 encT
    rw [List.getElem?_map, List.getElem?_eq_getElem hl, Int.toNat_natCast, List.getD_eq_getElem?_getD, List.getElem?_map, List.getElem?_eq_getElem hl]; rfl
  rw [List.take_add_one, hat]; rfl
set_option maxRecDepth 20000 in
set_option maxHeartbeats 4000000 in
theorem ranges_any (P : Option Addr) (x : Tab) (w : World) (h : TabN w P x) (hs : sz x.r ≤ 40000) :
    Calls Try.prog 23 #[.pointer P] w fun e w' => (∃ v, e = .returned v ∧ Kd.R k30 30 w' w.heap.size (fun _ => True) v (rangesT x.r)) ∧ Below w.heap.size w w' := by
  have ho := own_any P x w h
  have HSZ := Aside0.mk hs
  clear h hs
  go_enter Try.func23, Try.ntmps23
  go_wp2_with fail
  refine ho.mono ?_
  rintro e w1 ⟨⟨g, pb, pr, rfl, hg, hrb, hrr⟩, hb⟩
  have HB1 := Aside0.mk hb
  have x1 := blk_cell hg 1
  have hp := pairs_any pr x.r w1 hrr HSZ.out
  clear ho hb hrb hrr hg
  go_wp2_with fail
  refine hp.mono ?_
  rintro e w2 ⟨⟨A, c, rfl, hcl, hC⟩, hb⟩
  have HB2 := Aside0.mk (HB1.out.trans (hb.mono HB1.out.size))
  have HC := Aside0.mk hC
  have HTK := Aside0.mk (ranges_take x.r)
  have HRL := Aside0.mk (ranges_len x.r)
  have HL := Aside0.mk (show (encT (toL x.r)).length = sz x.r from by rw [encT_len, toL_len])
  clear hp hb hC hcl x1
  generalize encT (toL x.r) = E at *
  generalize sz x.r = n at *
  obtain ⟨R, hR⟩ : ∃ R, rangesT x.r = R := ⟨_, rfl⟩
  rw [hR] at HTK HRL
  have HRR := Aside0.mk hR
  clear hR
  go_wp2_with fail
  have HW0 := Aside0.mk (Below.refl w2.heap.size w2)
  go_loopw [3, 13] (fun v u wr => ∃ (j : Nat), j ≤ n ∧ u = .int .i64 j ∧ Aside0 (Kd.R k30 30 wr w2.heap.size (fun _ => True) v (R.take j)) ∧ Aside0 (Below w2.heap.size w2 wr)) (fun _ u _ => n - (intOf u).toNat)
  case atStart => exact ⟨0, Nat.zero_le _, rfl, ⟨by simpa using Kd.R_nil _ _ _ _ _⟩, HW0⟩
  case round =>
    clear HW0
    obtain ⟨j, hj, rfl, HR, HB⟩ := hrel
    obtain ⟨Av, cv, rfl⟩ := Kd.R_slice HR.out
    by_cases h1 : j < n
    · have h1' : (j : Int) < (E.length : Int) := by rw [HL.out]; omega
      obtain ⟨ad, rfl, a0, a1⟩ := at_T50 (Kd.C_below HC.out HB.out) j (by omega) (by omega)
      simp only [Int.toNat_natCast] at a0 a1
      have HT := Aside0.mk (HTK.out j h1)
      generalize rd_T50 E (j : Int) = p at *
      have hbp := HB.out.alloc HB.out.size (.cells #[.int .u64 p.f0, .int .i64 p.f1] 66)
      have HB3 := Aside0.mk hbp
      have HRW := Aside0.mk (Kd.R_alloc HR.out (.cells #[.int .u64 p.f0, .int .i64 p.f1] 66))
      have HLL := Aside0.mk (show (R.take j).length ≤ 40000 from by rw [List.length_take]; have := HSZ.out; omega)
      have hw := wr1 j (by have := HSZ.out; omega)
      clear hbp
      generalize R.take j = X at *
      go_wp2_with (first
        | ((with_reducible refine gate_builtin (b := .append) (xs := #[.tmp 17, .tmp 26]) rfl ?_); at_builtin; refine Kd.R_append k30 (w0 := w2) w2.heap.size rfl (.tmp 17) (.tmp 26) 22 30 (.agg #[(.int .u32 0), (.int .u32 0)]) 8 rfl Try.underlying22 info30 rfl (by decide) (by omega) (.slice Av X.length cv) X (rgOf p.f0) [.int .u32 (p.f0 / 4294967296 % 4294967296), .int .u32 (p.f0 % 4294967296)] (fun _ => True) (fun _ => False) rfl (by first | (go_simp; done) | (go_simp; rfl)) ?aP (fun _ hk => hk.elim) (fun _ _ => trivial) HRW.out HB3.out HB3.out.size ?aL ?_; (case aP => exact k30_mkM _ _ _ (rgOf p.f0)); (case aL => have := HLL.out; omega); intro v1 w3 hv1 hb3 hg3 ho3; have HV := Aside0.mk hv1; have HB4 := Aside0.mk hb3; clear hv1 hb3 hg3 ho3))
      go_roundw
      case rel => exact ⟨j + 1, by omega, by go_num, ⟨by rw [HT.out]; exact HV.out⟩, HB4⟩
      case measure => rw [hw]; (show n - (((j + 1 : Nat) : Int)).toNat < n - ((j : Nat) : Int).toNat); rw [Int.toNat_natCast, Int.toNat_natCast]; omega
    · have h1' : ¬ (j : Int) < (E.length : Int) := by rw [HL.out]; omega
      have HE := Aside0.mk (show R.take j = R from List.take_of_length_le (by rw [HRL.out]; omega))
      generalize R.take j = X at *
      go_wp2_with fail
      go_ret
      exact ⟨⟨_, rfl, by rw [HRR.out, ← HE.out]; exact Kd.R_lower HR.out HB2.out.size⟩, HB2.out.trans (HB.out.mono HB2.out.size)⟩
end Go.Proofs.Ytjfbiabgeickjaa.H
