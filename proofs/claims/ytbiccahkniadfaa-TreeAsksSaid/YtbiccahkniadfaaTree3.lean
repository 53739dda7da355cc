/- with: walked. -/
import Derived.Test.YtbiccahkniadfaaTree2
namespace Go.Proofs.Ytbiccahkniadfaa.H
open Go.RowKit Go.Proofs.Ytbiccahkniadfaa.P Go.Proofs.YtbiccahkniadfaaW.PrintWords Go.Proofs.YtbiccahkniadfaaW.PrintLast Go.Proofs.YtbiccahkniadfaaW.PrintMore
set_option linter.unusedVariables false
set_option linter.unusedSimpArgs false
theorem sz_even (l : T) (k v : Int) (r : T) : sz (evenT l k v r) = 1 + sz l + sz r := by
  unfold evenT
  split
  · split
    · rfl
    · split
      · simp only [sz]; omega
      · split
        · rfl
        · simp only [sz]; omega
  · split
    · split
      · rfl
      · split
        · simp only [sz]; omega
        · split
          · rfl
          · simp only [sz]; omega
    · rfl
def withT (k v : Int) : T → T
  | .leaf => .node .leaf k v .leaf
  | .node l k' v' r => if k < k' then evenT (withT k v l) k' v' r else if k > k' then evenT l k' v' (withT k v r) else .node l k v r
theorem sz_with (k v : Int) : ∀ t : T, sz (withT k v t) ≤ sz t + 1
  | .leaf => by simp [withT, sz]
  | .node l k' v' r => by
    have h1 := sz_with k v l
    have h2 := sz_with k v r
    unfold withT
    split
    · rw [sz_even]; simp only [sz]; omega
    · split
      · rw [sz_even]; simp only [sz]; omega
      · simp only [sz]; omega
set_option maxRecDepth 20000 in
set_option maxHeartbeats 4000000 in
theorem with_any (k v : Int) (t : T) : ∀ (p : Option Addr) (w : World), TreeAt w p t → sz t ≤ 40000 →
    Calls Try.prog 28 #[.pointer p, .agg #[.int .u64 k, .int .i64 v]] w fun e w' => (∃ q, e = .returned (.pointer q) ∧ TreeAt w' q (withT k v t)) ∧ Below w.heap.size w w' := by
  induction t with
  | leaf =>
    intro p w h hs
    obtain rfl : p = none := h
    have HB0 := Aside0.mk ((Below.refl w.heap.size w).alloc (Nat.le_refl _) (.cells #[.int .u64 k, .int .i64 v] 45))
    have HX0 := blk_new w (.cells #[.int .u64 k, .int .i64 v] 45)
    go_enter Try.func28, Try.ntmps28
    go_wp2_with fail
    generalize (w.alloc (.cells #[.int .u64 k, .int .i64 v] 45)) = w0 at *
    have hm := made_any none .leaf k v none .leaf w0 rfl rfl (by decide)
    refine hm.mono ?_
    rintro e w3 ⟨⟨p3, rfl, ht3⟩, hb3⟩
    have HT3 := Aside0.mk ht3
    have HB3 := Aside0.mk (HB0.out.trans (hb3.mono HB0.out.size))
    clear hm ht3 hb3 HX0
    go_wp2_with fail
    go_ret
    exact ⟨⟨_, rfl, HT3.out⟩, HB3.out⟩
  | node l k1 v1 r ihl ihr =>
    intro p w h hs
    obtain ⟨g, pl, pr, rfl, hg, hl, hr⟩ := h
    have HB0 := Aside0.mk ((Below.refl w.heap.size w).alloc (Nat.le_refl _) (.cells #[.int .u64 k, .int .i64 v] 45))
    have HX0 := Aside0.mk (blk_new w (.cells #[.int .u64 k, .int .i64 v] 45))
    have HG0 := Aside0.mk (blk_below hg HB0.out)
    have HL0 := Aside0.mk (hl.below HB0.out)
    have HR0 := Aside0.mk (hr.below HB0.out)
    have HSZ := Aside0.mk (show sz l + sz r + 1 ≤ 40000 by simp only [sz] at hs; omega)
    have IHL := Aside0.mk ihl
    have IHR := Aside0.mk ihr
    have HZL := Aside0.mk (sz_with k v l)
    have HZR := Aside0.mk (sz_with k v r)
    clear hg hl hr hs ihl ihr
    go_enter Try.func28, Try.ntmps28
    go_wp2_with fail
    generalize (w.alloc (.cells #[.int .u64 k, .int .i64 v] 45)) = w0 at *
    have c0 := blk_cell HX0.out 0
    have d0 := (node_cells HG0.out).1
    go_quiet (fail)
    have HB1 := Aside0.mk (below_drewN HB0.out nq)
    have HX1 := Aside0.mk (show (w0.drewN nq).heap[w.heap.size]? = _ from HX0.out)
    have HG1 := Aside0.mk (show (w0.drewN nq).heap[g]? = _ from HG0.out)
    have HL1 := Aside0.mk (HL0.out.drewN nq)
    have HR1 := Aside0.mk (HR0.out.drewN nq)
    clear c0 d0 HB0 HX0 HG0 HL0 HR0
    generalize w0.drewN nq = w1 at *
    by_cases c1 : k < k1
    · have HEV := Aside0.mk (show withT k v (.node l k1 v1 r) = evenT (withT k v l) k1 v1 r from by rw [withT, if_pos c1])
      go_wp2_with fail
      have hN : w1.cell? ⟨g, 0, none⟩ = some (.int .u64 k1) ∧ w1.cell? ⟨g, 1, none⟩ = some (.int .i64 v1) ∧ w1.cell? ⟨g, 2, none⟩ = some (.pointer pl) ∧ w1.cell? ⟨g, 3, none⟩ = some (.pointer pr) ∧ w1.cell? ⟨w.heap.size, 0, none⟩ = some (.int .u64 k) ∧ w1.cell? ⟨w.heap.size, 1, none⟩ = some (.int .i64 v) :=
        ⟨(node_cells HG1.out).1, (node_cells HG1.out).2.1, (node_cells HG1.out).2.2.1, (node_cells HG1.out).2.2.2, blk_cell HX1.out 0, blk_cell HX1.out 1⟩
      have HLD := Aside0.mk (HL1.out.below (below_drew (Below.refl _ w1)))
      have HRD := Aside0.mk (HR1.out.below (below_drew (Below.refl _ w1)))
      have HBD := Aside0.mk (HB1.out.trans ((below_drew (Below.refl _ w1)).mono HB1.out.size))
      clear HB1 HX1 HG1 HL1 HR1
      refine wp_region_held_drew (S := (fun w' => w'.cell? ⟨g, 0, none⟩ = some (.int .u64 k1) ∧ w'.cell? ⟨g, 1, none⟩ = some (.int .i64 v1) ∧ w'.cell? ⟨g, 2, none⟩ = some (.pointer pl) ∧ w'.cell? ⟨g, 3, none⟩ = some (.pointer pr) ∧ w'.cell? ⟨w.heap.size, 0, none⟩ = some (.int .u64 k) ∧ w'.cell? ⟨w.heap.size, 1, none⟩ = some (.int .i64 v))) (by kernel_rfl) ?hSa0 (fun hHeld => ?_)
      case hSa0 => first | assumption | go_keep
      refine held_take 0 (some 19) (v := ?va0) rfl rfl (by kernel_rfl) (by kernel_rfl) (by kernel_rfl) (fun _ _ _ h => h) (by rfl) ?ya0 (by assumption) ?_
      case ya0 => ((intro w hSw); (try dsimp only at hSw); go_simp <;> (with_reducible rfl))
      try simp only [Act.put, List.setIfInBounds_toArray, List.set_cons_zero, List.set_cons_succ]
      refine held_take 1 (some 20) (v := ?va1) rfl rfl (by kernel_rfl) (by kernel_rfl) (by kernel_rfl) (fun _ _ _ h => h) (by rfl) ?ya1 (by assumption) ?_
      case ya1 => ((intro w hSw); (try dsimp only at hSw); go_simp <;> (with_reducible rfl))
      try simp only [Act.put, List.setIfInBounds_toArray, List.set_cons_zero, List.set_cons_succ]
      refine held_take 2 (some 21) (v := ?va2) rfl rfl (by kernel_rfl) (by kernel_rfl) (by kernel_rfl) (fun _ _ _ h => h) (by rfl) ?ya2 (by assumption) ?_
      case ya2 => ((intro w hSw); (try dsimp only at hSw); go_simp <;> (with_reducible rfl))
      try simp only [Act.put, List.setIfInBounds_toArray, List.set_cons_zero, List.set_cons_succ]
      refine held_take 3 (some 22) (v := ?va3) rfl rfl (by kernel_rfl) (by kernel_rfl) (by kernel_rfl) (fun _ _ _ h => h) (by rfl) ?ya3 (by assumption) ?_
      case ya3 => ((intro w hSw); (try dsimp only at hSw); go_simp <;> (with_reducible rfl))
      try simp only [Act.put, List.setIfInBounds_toArray, List.set_cons_zero, List.set_cons_succ]
      refine held_take 4 (some 23) (v := ?va4) rfl rfl (by kernel_rfl) (by kernel_rfl) (by kernel_rfl) (fun _ _ _ h => h) (by rfl) ?ya4 (by assumption) ?_
      case ya4 => ((intro w hSw); (try dsimp only at hSw); go_simp <;> (with_reducible rfl))
      try simp only [Act.put, List.setIfInBounds_toArray, List.set_cons_zero, List.set_cons_succ]
      refine held_take 6 (some 25) (v := ?va6) rfl rfl (by kernel_rfl) (by kernel_rfl) (by kernel_rfl) (fun _ _ _ h => h) (by rfl) ?ya6 (by assumption) ?_
      case ya6 => ((intro w hSw); (try dsimp only at hSw); go_simp <;> (with_reducible rfl))
      try simp only [Act.put, List.setIfInBounds_toArray, List.set_cons_zero, List.set_cons_succ]
      refine held_take 7 (some 26) (v := ?va7) rfl rfl (by kernel_rfl) (by kernel_rfl) (by kernel_rfl) (fun _ _ _ h => h) (by rfl) ?ya7 (by assumption) ?_
      case ya7 => ((intro w hSw); (try dsimp only at hSw); go_simp <;> (with_reducible rfl))
      try simp only [Act.put, List.setIfInBounds_toArray, List.set_cons_zero, List.set_cons_succ]
      refine held_take 8 (some 27) (v := ?va8) rfl rfl (by kernel_rfl) (by kernel_rfl) (by kernel_rfl) (fun _ _ _ h => h) (by rfl) ?ya8 (by assumption) ?_
      case ya8 => ((intro w hSw); (try dsimp only at hSw); go_simp <;> (with_reducible rfl))
      try simp only [Act.put, List.setIfInBounds_toArray, List.set_cons_zero, List.set_cons_succ]
      refine held_take 9 (some 28) (v := ?va9) rfl rfl (by kernel_rfl) (by kernel_rfl) (by kernel_rfl) (fun _ _ _ h => h) (by rfl) ?ya9 (by assumption) ?_
      case ya9 => ((intro w hSw); (try dsimp only at hSw); go_simp <;> (with_reducible rfl))
      try simp only [Act.put, List.setIfInBounds_toArray, List.set_cons_zero, List.set_cons_succ]
      refine held_take 10 (some 29) (v := ?va10) rfl rfl (by kernel_rfl) (by kernel_rfl) (by kernel_rfl) (fun _ _ _ h => h) (by rfl) ?ya10 (by assumption) ?_
      case ya10 => ((intro w hSw); (try dsimp only at hSw); go_simp <;> (with_reducible rfl))
      try simp only [Act.put, List.setIfInBounds_toArray, List.set_cons_zero, List.set_cons_succ]
      refine held_take 11 (some 30) (v := ?va11) rfl rfl (by kernel_rfl) (by kernel_rfl) (by kernel_rfl) (fun _ _ _ h => h) (by rfl) ?ya11 (by assumption) ?_
      case ya11 => ((intro w hSw); (try dsimp only at hSw); go_simp <;> (with_reducible rfl))
      try simp only [Act.put, List.setIfInBounds_toArray, List.set_cons_zero, List.set_cons_succ]
      refine held_take 12 (some 31) (v := ?va12) rfl rfl (by kernel_rfl) (by kernel_rfl) (by kernel_rfl) (fun _ _ _ h => h) (by rfl) ?ya12 (by assumption) ?_
      case ya12 => ((intro w hSw); (try dsimp only at hSw); go_simp <;> (with_reducible rfl))
      try simp only [Act.put, List.setIfInBounds_toArray, List.set_cons_zero, List.set_cons_succ]
      refine held_take 13 (some 32) (v := ?va13) rfl rfl (by kernel_rfl) (by kernel_rfl) (by kernel_rfl) (fun _ _ _ h => h) (by rfl) ?ya13 (by assumption) ?_
      case ya13 => ((intro w hSw); (try dsimp only at hSw); go_simp <;> (with_reducible rfl))
      try simp only [Act.put, List.setIfInBounds_toArray, List.set_cons_zero, List.set_cons_succ]
      refine wpAnyH_ready (rs := [5]) (by kernel_rfl) (by simp) ?_
      refine AllReadyH.cons rfl (fun K hK => ?_) AllReadyH.nil
      go_simp
      refine (IHL.out pl _ HLD.out (by have := HSZ.out; omega)).mono ?_
      rintro e w4 ⟨⟨p4, rfl, ht4⟩, hb4⟩
      have K4 := cells6_below (by assumption) hb4
      have HT4 := Aside0.mk ht4
      have HR4 := Aside0.mk (HRD.out.below hb4)
      have HB4 := Aside0.mk (HBD.out.trans (hb4.mono HBD.out.size))
      clear ht4 hb4
      refine hK.out _ _ ?hSa6 (fun hHeld => ?_)
      case hSa6 => first | assumption | go_keep
      clear hK K
      try simp only [Act.put, List.setIfInBounds_toArray, List.set_cons_zero, List.set_cons_succ]
      refine wpAnyH_ready (rs := [14]) (by kernel_rfl) (by simp) ?_
      refine AllReadyH.cons rfl (fun K hK => ?_) AllReadyH.nil
      go_simp
      refine (even_any p4 (withT k v l) k1 v1 pr r _ HT4.out HR4.out (by have := HSZ.out; have := HZL.out; omega)).mono ?_
      rintro e w5 ⟨⟨p5, rfl, ht5⟩, hb5⟩
      have K5 := cells6_below (by assumption) hb5
      have HT5 := Aside0.mk ht5
      have HB5 := Aside0.mk (HB4.out.trans (hb5.mono HB4.out.size))
      clear ht5 hb5
      refine hK.out _ _ ?hSa15 (fun hHeld => ?_)
      case hSa15 => first | assumption | go_keep
      clear hK K
      try simp only [Act.put, List.setIfInBounds_toArray, List.set_cons_zero, List.set_cons_succ]
      refine held_take 15 (some 4) (v := ?va15) rfl rfl (by kernel_rfl) (by kernel_rfl) (by kernel_rfl) (fun _ _ _ h => h) (by rfl) ?ya15 (by assumption) ?_
      case ya15 => ((intro w hSw); (try dsimp only at hSw); go_simp <;> (with_reducible rfl))
      try simp only [Act.put, List.setIfInBounds_toArray, List.set_cons_zero, List.set_cons_succ]
      refine wpAnyH_done (by kernel_rfl) ?_ _
      go_wp2
      go_ret
      exact ⟨⟨_, rfl, by rw [HEV.out]; exact HT5.out⟩, HB5.out⟩
    · go_wp2_with fail
      have c0 := blk_cell HX1.out 0
      have d0 := (node_cells HG1.out).1
      go_quiet (fail)
      have HB2 := Aside0.mk (below_drewN HB1.out nq)
      have HX2 := Aside0.mk (show (w1.drewN nq).heap[w.heap.size]? = _ from HX1.out)
      have HG2 := Aside0.mk (show (w1.drewN nq).heap[g]? = _ from HG1.out)
      have HL2 := Aside0.mk (HL1.out.drewN nq)
      have HR2 := Aside0.mk (HR1.out.drewN nq)
      clear c0 d0 HB1 HX1 HG1 HL1 HR1
      generalize w1.drewN nq = w2 at *
      by_cases c2 : k1 < k
      · have HEV := Aside0.mk (show withT k v (.node l k1 v1 r) = evenT l k1 v1 (withT k v r) from by rw [withT, if_neg (show ¬ k < k1 by omega), if_pos (show k > k1 by omega)])
        go_wp2_with fail
        have hN : w2.cell? ⟨g, 0, none⟩ = some (.int .u64 k1) ∧ w2.cell? ⟨g, 1, none⟩ = some (.int .i64 v1) ∧ w2.cell? ⟨g, 2, none⟩ = some (.pointer pl) ∧ w2.cell? ⟨g, 3, none⟩ = some (.pointer pr) ∧ w2.cell? ⟨w.heap.size, 0, none⟩ = some (.int .u64 k) ∧ w2.cell? ⟨w.heap.size, 1, none⟩ = some (.int .i64 v) :=
          ⟨(node_cells HG2.out).1, (node_cells HG2.out).2.1, (node_cells HG2.out).2.2.1, (node_cells HG2.out).2.2.2, blk_cell HX2.out 0, blk_cell HX2.out 1⟩
        have HLD := Aside0.mk (HL2.out.below (below_drew (Below.refl _ w2)))
        have HRD := Aside0.mk (HR2.out.below (below_drew (Below.refl _ w2)))
        have HBD := Aside0.mk (HB2.out.trans ((below_drew (Below.refl _ w2)).mono HB2.out.size))
        clear HB2 HX2 HG2 HL2 HR2
        refine wp_region_held_drew (S := (fun w' => w'.cell? ⟨g, 0, none⟩ = some (.int .u64 k1) ∧ w'.cell? ⟨g, 1, none⟩ = some (.int .i64 v1) ∧ w'.cell? ⟨g, 2, none⟩ = some (.pointer pl) ∧ w'.cell? ⟨g, 3, none⟩ = some (.pointer pr) ∧ w'.cell? ⟨w.heap.size, 0, none⟩ = some (.int .u64 k) ∧ w'.cell? ⟨w.heap.size, 1, none⟩ = some (.int .i64 v))) (by kernel_rfl) ?hSb0 (fun hHeld => ?_)
        case hSb0 => first | assumption | go_keep
        refine held_take 0 (some 43) (v := ?vb0) rfl rfl (by kernel_rfl) (by kernel_rfl) (by kernel_rfl) (fun _ _ _ h => h) (by rfl) ?yb0 (by assumption) ?_
        case yb0 => ((intro w hSw); (try dsimp only at hSw); go_simp <;> (with_reducible rfl))
        try simp only [Act.put, List.setIfInBounds_toArray, List.set_cons_zero, List.set_cons_succ]
        refine held_take 1 (some 44) (v := ?vb1) rfl rfl (by kernel_rfl) (by kernel_rfl) (by kernel_rfl) (fun _ _ _ h => h) (by rfl) ?yb1 (by assumption) ?_
        case yb1 => ((intro w hSw); (try dsimp only at hSw); go_simp <;> (with_reducible rfl))
        try simp only [Act.put, List.setIfInBounds_toArray, List.set_cons_zero, List.set_cons_succ]
        refine held_take 2 (some 45) (v := ?vb2) rfl rfl (by kernel_rfl) (by kernel_rfl) (by kernel_rfl) (fun _ _ _ h => h) (by rfl) ?yb2 (by assumption) ?_
        case yb2 => ((intro w hSw); (try dsimp only at hSw); go_simp <;> (with_reducible rfl))
        try simp only [Act.put, List.setIfInBounds_toArray, List.set_cons_zero, List.set_cons_succ]
        refine held_take 3 (some 46) (v := ?vb3) rfl rfl (by kernel_rfl) (by kernel_rfl) (by kernel_rfl) (fun _ _ _ h => h) (by rfl) ?yb3 (by assumption) ?_
        case yb3 => ((intro w hSw); (try dsimp only at hSw); go_simp <;> (with_reducible rfl))
        try simp only [Act.put, List.setIfInBounds_toArray, List.set_cons_zero, List.set_cons_succ]
        refine held_take 4 (some 47) (v := ?vb4) rfl rfl (by kernel_rfl) (by kernel_rfl) (by kernel_rfl) (fun _ _ _ h => h) (by rfl) ?yb4 (by assumption) ?_
        case yb4 => ((intro w hSw); (try dsimp only at hSw); go_simp <;> (with_reducible rfl))
        try simp only [Act.put, List.setIfInBounds_toArray, List.set_cons_zero, List.set_cons_succ]
        refine held_take 5 (some 48) (v := ?vb5) rfl rfl (by kernel_rfl) (by kernel_rfl) (by kernel_rfl) (fun _ _ _ h => h) (by rfl) ?yb5 (by assumption) ?_
        case yb5 => ((intro w hSw); (try dsimp only at hSw); go_simp <;> (with_reducible rfl))
        try simp only [Act.put, List.setIfInBounds_toArray, List.set_cons_zero, List.set_cons_succ]
        refine held_take 6 (some 49) (v := ?vb6) rfl rfl (by kernel_rfl) (by kernel_rfl) (by kernel_rfl) (fun _ _ _ h => h) (by rfl) ?yb6 (by assumption) ?_
        case yb6 => ((intro w hSw); (try dsimp only at hSw); go_simp <;> (with_reducible rfl))
        try simp only [Act.put, List.setIfInBounds_toArray, List.set_cons_zero, List.set_cons_succ]
        refine held_take 7 (some 50) (v := ?vb7) rfl rfl (by kernel_rfl) (by kernel_rfl) (by kernel_rfl) (fun _ _ _ h => h) (by rfl) ?yb7 (by assumption) ?_
        case yb7 => ((intro w hSw); (try dsimp only at hSw); go_simp <;> (with_reducible rfl))
        try simp only [Act.put, List.setIfInBounds_toArray, List.set_cons_zero, List.set_cons_succ]
        refine held_take 8 (some 51) (v := ?vb8) rfl rfl (by kernel_rfl) (by kernel_rfl) (by kernel_rfl) (fun _ _ _ h => h) (by rfl) ?yb8 (by assumption) ?_
        case yb8 => ((intro w hSw); (try dsimp only at hSw); go_simp <;> (with_reducible rfl))
        try simp only [Act.put, List.setIfInBounds_toArray, List.set_cons_zero, List.set_cons_succ]
        refine held_take 9 (some 52) (v := ?vb9) rfl rfl (by kernel_rfl) (by kernel_rfl) (by kernel_rfl) (fun _ _ _ h => h) (by rfl) ?yb9 (by assumption) ?_
        case yb9 => ((intro w hSw); (try dsimp only at hSw); go_simp <;> (with_reducible rfl))
        try simp only [Act.put, List.setIfInBounds_toArray, List.set_cons_zero, List.set_cons_succ]
        refine held_take 10 (some 53) (v := ?vb10) rfl rfl (by kernel_rfl) (by kernel_rfl) (by kernel_rfl) (fun _ _ _ h => h) (by rfl) ?yb10 (by assumption) ?_
        case yb10 => ((intro w hSw); (try dsimp only at hSw); go_simp <;> (with_reducible rfl))
        try simp only [Act.put, List.setIfInBounds_toArray, List.set_cons_zero, List.set_cons_succ]
        refine held_take 11 (some 54) (v := ?vb11) rfl rfl (by kernel_rfl) (by kernel_rfl) (by kernel_rfl) (fun _ _ _ h => h) (by rfl) ?yb11 (by assumption) ?_
        case yb11 => ((intro w hSw); (try dsimp only at hSw); go_simp <;> (with_reducible rfl))
        try simp only [Act.put, List.setIfInBounds_toArray, List.set_cons_zero, List.set_cons_succ]
        refine held_take 12 (some 55) (v := ?vb12) rfl rfl (by kernel_rfl) (by kernel_rfl) (by kernel_rfl) (fun _ _ _ h => h) (by rfl) ?yb12 (by assumption) ?_
        case yb12 => ((intro w hSw); (try dsimp only at hSw); go_simp <;> (with_reducible rfl))
        try simp only [Act.put, List.setIfInBounds_toArray, List.set_cons_zero, List.set_cons_succ]
        refine wpAnyH_ready (rs := [13]) (by kernel_rfl) (by simp) ?_
        refine AllReadyH.cons rfl (fun K hK => ?_) AllReadyH.nil
        go_simp
        refine (IHR.out pr _ HRD.out (by have := HSZ.out; omega)).mono ?_
        rintro e w4 ⟨⟨p4, rfl, ht4⟩, hb4⟩
        have K4 := cells6_below (by assumption) hb4
        have HT4 := Aside0.mk ht4
        have HL4 := Aside0.mk (HLD.out.below hb4)
        have HB4 := Aside0.mk (HBD.out.trans (hb4.mono HBD.out.size))
        clear ht4 hb4
        refine hK.out _ _ ?hSb14 (fun hHeld => ?_)
        case hSb14 => first | assumption | go_keep
        clear hK K
        try simp only [Act.put, List.setIfInBounds_toArray, List.set_cons_zero, List.set_cons_succ]
        refine wpAnyH_ready (rs := [14]) (by kernel_rfl) (by simp) ?_
        refine AllReadyH.cons rfl (fun K hK => ?_) AllReadyH.nil
        go_simp
        refine (even_any pl l k1 v1 p4 (withT k v r) _ HL4.out HT4.out (by have := HSZ.out; have := HZR.out; omega)).mono ?_
        rintro e w5 ⟨⟨p5, rfl, ht5⟩, hb5⟩
        have K5 := cells6_below (by assumption) hb5
        have HT5 := Aside0.mk ht5
        have HB5 := Aside0.mk (HB4.out.trans (hb5.mono HB4.out.size))
        clear ht5 hb5
        refine hK.out _ _ ?hSb15 (fun hHeld => ?_)
        case hSb15 => first | assumption | go_keep
        clear hK K
        try simp only [Act.put, List.setIfInBounds_toArray, List.set_cons_zero, List.set_cons_succ]
        refine held_take 15 (some 4) (v := ?vb15) rfl rfl (by kernel_rfl) (by kernel_rfl) (by kernel_rfl) (fun _ _ _ h => h) (by rfl) ?yb15 (by assumption) ?_
        case yb15 => ((intro w hSw); (try dsimp only at hSw); go_simp <;> (with_reducible rfl))
        try simp only [Act.put, List.setIfInBounds_toArray, List.set_cons_zero, List.set_cons_succ]
        refine wpAnyH_done (by kernel_rfl) ?_ _
        go_wp2
        go_ret
        exact ⟨⟨_, rfl, by rw [HEV.out]; exact HT5.out⟩, HB5.out⟩
      · have HEV := Aside0.mk (show withT k v (.node l k1 v1 r) = .node l k v r from by rw [withT, if_neg (show ¬ k < k1 by omega), if_neg (show ¬ k > k1 by omega)])
        go_wp2_with fail
        have hN : w2.cell? ⟨g, 0, none⟩ = some (.int .u64 k1) ∧ w2.cell? ⟨g, 1, none⟩ = some (.int .i64 v1) ∧ w2.cell? ⟨g, 2, none⟩ = some (.pointer pl) ∧ w2.cell? ⟨g, 3, none⟩ = some (.pointer pr) ∧ w2.cell? ⟨w.heap.size, 0, none⟩ = some (.int .u64 k) ∧ w2.cell? ⟨w.heap.size, 1, none⟩ = some (.int .i64 v) :=
          ⟨(node_cells HG2.out).1, (node_cells HG2.out).2.1, (node_cells HG2.out).2.2.1, (node_cells HG2.out).2.2.2, blk_cell HX2.out 0, blk_cell HX2.out 1⟩
        have HLD := Aside0.mk (HL2.out.below (below_drew (Below.refl _ w2)))
        have HRD := Aside0.mk (HR2.out.below (below_drew (Below.refl _ w2)))
        have HBD := Aside0.mk (HB2.out.trans ((below_drew (Below.refl _ w2)).mono HB2.out.size))
        clear HB2 HX2 HG2 HL2 HR2
        refine wp_region_held_drew (S := (fun w' => w'.cell? ⟨g, 0, none⟩ = some (.int .u64 k1) ∧ w'.cell? ⟨g, 1, none⟩ = some (.int .i64 v1) ∧ w'.cell? ⟨g, 2, none⟩ = some (.pointer pl) ∧ w'.cell? ⟨g, 3, none⟩ = some (.pointer pr) ∧ w'.cell? ⟨w.heap.size, 0, none⟩ = some (.int .u64 k) ∧ w'.cell? ⟨w.heap.size, 1, none⟩ = some (.int .i64 v))) (by kernel_rfl) ?hSc0 (fun hHeld => ?_)
        case hSc0 => first | assumption | go_keep
        refine held_take 0 (some 58) (v := ?vc0) rfl rfl (by kernel_rfl) (by kernel_rfl) (by kernel_rfl) (fun _ _ _ h => h) (by rfl) ?yc0 (by assumption) ?_
        case yc0 => ((intro w hSw); (try dsimp only at hSw); go_simp <;> (with_reducible rfl))
        try simp only [Act.put, List.setIfInBounds_toArray, List.set_cons_zero, List.set_cons_succ]
        refine held_take 1 (some 59) (v := ?vc1) rfl rfl (by kernel_rfl) (by kernel_rfl) (by kernel_rfl) (fun _ _ _ h => h) (by rfl) ?yc1 (by assumption) ?_
        case yc1 => ((intro w hSw); (try dsimp only at hSw); go_simp <;> (with_reducible rfl))
        try simp only [Act.put, List.setIfInBounds_toArray, List.set_cons_zero, List.set_cons_succ]
        refine held_take 2 (some 60) (v := ?vc2) rfl rfl (by kernel_rfl) (by kernel_rfl) (by kernel_rfl) (fun _ _ _ h => h) (by rfl) ?yc2 (by assumption) ?_
        case yc2 => ((intro w hSw); (try dsimp only at hSw); go_simp <;> (with_reducible rfl))
        try simp only [Act.put, List.setIfInBounds_toArray, List.set_cons_zero, List.set_cons_succ]
        refine held_take 3 (some 61) (v := ?vc3) rfl rfl (by kernel_rfl) (by kernel_rfl) (by kernel_rfl) (fun _ _ _ h => h) (by rfl) ?yc3 (by assumption) ?_
        case yc3 => ((intro w hSw); (try dsimp only at hSw); go_simp <;> (with_reducible rfl))
        try simp only [Act.put, List.setIfInBounds_toArray, List.set_cons_zero, List.set_cons_succ]
        refine held_take 4 (some 62) (v := ?vc4) rfl rfl (by kernel_rfl) (by kernel_rfl) (by kernel_rfl) (fun _ _ _ h => h) (by rfl) ?yc4 (by assumption) ?_
        case yc4 => ((intro w hSw); (try dsimp only at hSw); go_simp <;> (with_reducible rfl))
        try simp only [Act.put, List.setIfInBounds_toArray, List.set_cons_zero, List.set_cons_succ]
        refine held_take 5 (some 63) (v := ?vc5) rfl rfl (by kernel_rfl) (by kernel_rfl) (by kernel_rfl) (fun _ _ _ h => h) (by rfl) ?yc5 (by assumption) ?_
        case yc5 => ((intro w hSw); (try dsimp only at hSw); go_simp <;> (with_reducible rfl))
        try simp only [Act.put, List.setIfInBounds_toArray, List.set_cons_zero, List.set_cons_succ]
        refine held_take 6 (some 64) (v := ?vc6) rfl rfl (by kernel_rfl) (by kernel_rfl) (by kernel_rfl) (fun _ _ _ h => h) (by rfl) ?yc6 (by assumption) ?_
        case yc6 => ((intro w hSw); (try dsimp only at hSw); go_simp <;> (with_reducible rfl))
        try simp only [Act.put, List.setIfInBounds_toArray, List.set_cons_zero, List.set_cons_succ]
        refine held_take 7 (some 65) (v := ?vc7) rfl rfl (by kernel_rfl) (by kernel_rfl) (by kernel_rfl) (fun _ _ _ h => h) (by rfl) ?yc7 (by assumption) ?_
        case yc7 => ((intro w hSw); (try dsimp only at hSw); go_simp <;> (with_reducible rfl))
        try simp only [Act.put, List.setIfInBounds_toArray, List.set_cons_zero, List.set_cons_succ]
        refine held_take 8 (some 66) (v := ?vc8) rfl rfl (by kernel_rfl) (by kernel_rfl) (by kernel_rfl) (fun _ _ _ h => h) (by rfl) ?yc8 (by assumption) ?_
        case yc8 => ((intro w hSw); (try dsimp only at hSw); go_simp <;> (with_reducible rfl))
        try simp only [Act.put, List.setIfInBounds_toArray, List.set_cons_zero, List.set_cons_succ]
        refine wpAnyH_ready (rs := [9]) (by kernel_rfl) (by simp) ?_
        refine AllReadyH.cons rfl (fun K hK => ?_) AllReadyH.nil
        go_simp
        refine (made_any pl l k v pr r _ HLD.out HRD.out (by have := HSZ.out; omega)).mono ?_
        rintro e w4 ⟨⟨p4, rfl, ht4⟩, hb4⟩
        have K4 := cells6_below (by assumption) hb4
        have HT4 := Aside0.mk ht4
        have HB4 := Aside0.mk (HBD.out.trans (hb4.mono HBD.out.size))
        clear ht4 hb4
        refine hK.out _ _ ?hSc10 (fun hHeld => ?_)
        case hSc10 => first | assumption | go_keep
        clear hK K
        try simp only [Act.put, List.setIfInBounds_toArray, List.set_cons_zero, List.set_cons_succ]
        refine held_take 10 (some 4) (v := ?vc10) rfl rfl (by kernel_rfl) (by kernel_rfl) (by kernel_rfl) (fun _ _ _ h => h) (by rfl) ?yc10 (by assumption) ?_
        case yc10 => ((intro w hSw); (try dsimp only at hSw); go_simp <;> (with_reducible rfl))
        try simp only [Act.put, List.setIfInBounds_toArray, List.set_cons_zero, List.set_cons_succ]
        refine wpAnyH_done (by kernel_rfl) ?_ _
        go_wp2
        go_ret
        exact ⟨⟨_, rfl, by rw [HEV.out]; exact HT4.out⟩, HB4.out⟩
end Go.Proofs.Ytbiccahkniadfaa.H
