/- without: walked. -/
import Derived.Test.YtbiccahkniadfaaTree4
namespace Go.Proofs.Ytbiccahkniadfaa.H
open Go.RowKit Go.Proofs.Ytbiccahkniadfaa.P Go.Proofs.YtbiccahkniadfaaW.PrintWords Go.Proofs.YtbiccahkniadfaaW.PrintLast Go.Proofs.YtbiccahkniadfaaW.PrintMore
set_option linter.unusedVariables false
set_option linter.unusedSimpArgs false
def hasT (k : Int) : T → Bool
  | .leaf => false
  | .node l k1 _ r => if k < k1 then hasT k l else if k > k1 then hasT k r else true
def withoutT (k : Int) : T → T
  | .leaf => .leaf
  | .node l k1 v1 r => if k < k1 then evenT (withoutT k l) k1 v1 r else if k > k1 then evenT l k1 v1 (withoutT k r) else
      match r with
      | .leaf => l
      | .node rl rk rv rr => evenT l (leastT (.node rl rk rv rr)).1.1 (leastT (.node rl rk rv rr)).1.2 (leastT (.node rl rk rv rr)).2
theorem sz_without (k : Int) : ∀ t : T, sz (withoutT k t) ≤ sz t
  | .leaf => Nat.le_refl _
  | .node l k1 v1 r => by
    have h1 := sz_without k l
    have h2 := sz_without k r
    unfold withoutT
    split
    · rw [sz_even]; simp only [sz]; omega
    · split
      · rw [sz_even]; simp only [sz]; omega
      · cases r with
        | leaf => simp only [sz]; omega
        | node rl rk rv rr =>
          have h3 := sz_least (.node rl rk rv rr)
          simp only []
          rw [sz_even]
          simp only [sz] at h3 ⊢
          omega
set_option maxRecDepth 20000 in
set_option maxHeartbeats 4000000 in
theorem without_any (k : Int) (t : T) : ∀ (p : Option Addr) (w : World), TreeAt w p t → sz t ≤ 40000 → hasT k t = true →
    Calls Try.prog 29 #[.pointer p, .int .u64 k] w fun e w' => (∃ q, e = .returned (.pointer q) ∧ TreeAt w' q (withoutT k t)) ∧ Below w.heap.size w w' := by
  induction t with
  | leaf =>
    intro p w h hs hh
    cases hh
  | node l k1 v1 r ihl ihr =>
    intro p w h hs hh
    obtain ⟨g, pl, pr, rfl, hg, hl, hr⟩ := h
    have HG0 := Aside0.mk hg
    have HL0 := Aside0.mk hl
    have HR0 := Aside0.mk hr
    have HSZ := Aside0.mk (show sz l + sz r + 1 ≤ 40000 by simp only [sz] at hs; omega)
    have IHL := Aside0.mk ihl
    have IHR := Aside0.mk ihr
    have HZL := Aside0.mk (sz_without k l)
    have HZR := Aside0.mk (sz_without k r)
    have hN : w.cell? ⟨g, 0, none⟩ = some (.int .u64 k1) ∧ w.cell? ⟨g, 1, none⟩ = some (.int .i64 v1) ∧ w.cell? ⟨g, 2, none⟩ = some (.pointer pl) ∧ w.cell? ⟨g, 3, none⟩ = some (.pointer pr) := node_cells hg
    have HLD := Aside0.mk (hl.below (below_drew (Below.refl _ w)))
    have HRD := Aside0.mk (hr.below (below_drew (Below.refl _ w)))
    have HBD := Aside0.mk (below_drew (Below.refl w.heap.size w))
    have hh' := hh
    unfold hasT at hh'
    have HH := Aside0.mk hh'
    have d0 := hN.1
    have d3 := hN.2.2.2
    have d2 := hN.2.2.1
    clear hg hl hr hs ihl ihr hh hh'
    go_enter Try.func29, Try.ntmps29
    by_cases c1 : k < k1
    · have HHL := Aside0.mk (show hasT k l = true from by have := HH.out; rwa [if_pos c1] at this)
      have HEV := Aside0.mk (show withoutT k (.node l k1 v1 r) = evenT (withoutT k l) k1 v1 r from by conv => lhs; unfold withoutT; rw [if_pos c1])
      go_wp2_with fail
      refine wp_region_held_drew (S := (fun w' => w'.cell? ⟨g, 0, none⟩ = some (.int .u64 k1) ∧ w'.cell? ⟨g, 1, none⟩ = some (.int .i64 v1) ∧ w'.cell? ⟨g, 2, none⟩ = some (.pointer pl) ∧ w'.cell? ⟨g, 3, none⟩ = some (.pointer pr))) (by kernel_rfl) ?hSa0 (fun hHeld => ?_)
      case hSa0 => first | assumption | go_keep
      refine held_take 0 (some 15) (v := ?va0) rfl rfl (by kernel_rfl) (by kernel_rfl) (by kernel_rfl) (fun _ _ _ h => h) (by rfl) ?ya0 (by assumption) ?_
      case ya0 => ((intro w hSw); (try dsimp only at hSw); go_simp <;> (with_reducible rfl))
      try simp only [Act.put, List.setIfInBounds_toArray, List.set_cons_zero, List.set_cons_succ]
      refine held_take 1 (some 16) (v := ?va1) rfl rfl (by kernel_rfl) (by kernel_rfl) (by kernel_rfl) (fun _ _ _ h => h) (by rfl) ?ya1 (by assumption) ?_
      case ya1 => ((intro w hSw); (try dsimp only at hSw); go_simp <;> (with_reducible rfl))
      try simp only [Act.put, List.setIfInBounds_toArray, List.set_cons_zero, List.set_cons_succ]
      refine held_take 2 (some 17) (v := ?va2) rfl rfl (by kernel_rfl) (by kernel_rfl) (by kernel_rfl) (fun _ _ _ h => h) (by rfl) ?ya2 (by assumption) ?_
      case ya2 => ((intro w hSw); (try dsimp only at hSw); go_simp <;> (with_reducible rfl))
      try simp only [Act.put, List.setIfInBounds_toArray, List.set_cons_zero, List.set_cons_succ]
      refine held_take 3 (some 18) (v := ?va3) rfl rfl (by kernel_rfl) (by kernel_rfl) (by kernel_rfl) (fun _ _ _ h => h) (by rfl) ?ya3 (by assumption) ?_
      case ya3 => ((intro w hSw); (try dsimp only at hSw); go_simp <;> (with_reducible rfl))
      try simp only [Act.put, List.setIfInBounds_toArray, List.set_cons_zero, List.set_cons_succ]
      refine held_take 4 (some 19) (v := ?va4) rfl rfl (by kernel_rfl) (by kernel_rfl) (by kernel_rfl) (fun _ _ _ h => h) (by rfl) ?ya4 (by assumption) ?_
      case ya4 => ((intro w hSw); (try dsimp only at hSw); go_simp <;> (with_reducible rfl))
      try simp only [Act.put, List.setIfInBounds_toArray, List.set_cons_zero, List.set_cons_succ]
      refine held_take 6 (some 21) (v := ?va6) rfl rfl (by kernel_rfl) (by kernel_rfl) (by kernel_rfl) (fun _ _ _ h => h) (by rfl) ?ya6 (by assumption) ?_
      case ya6 => ((intro w hSw); (try dsimp only at hSw); go_simp <;> (with_reducible rfl))
      try simp only [Act.put, List.setIfInBounds_toArray, List.set_cons_zero, List.set_cons_succ]
      refine held_take 7 (some 22) (v := ?va7) rfl rfl (by kernel_rfl) (by kernel_rfl) (by kernel_rfl) (fun _ _ _ h => h) (by rfl) ?ya7 (by assumption) ?_
      case ya7 => ((intro w hSw); (try dsimp only at hSw); go_simp <;> (with_reducible rfl))
      try simp only [Act.put, List.setIfInBounds_toArray, List.set_cons_zero, List.set_cons_succ]
      refine held_take 8 (some 23) (v := ?va8) rfl rfl (by kernel_rfl) (by kernel_rfl) (by kernel_rfl) (fun _ _ _ h => h) (by rfl) ?ya8 (by assumption) ?_
      case ya8 => ((intro w hSw); (try dsimp only at hSw); go_simp <;> (with_reducible rfl))
      try simp only [Act.put, List.setIfInBounds_toArray, List.set_cons_zero, List.set_cons_succ]
      refine held_take 9 (some 24) (v := ?va9) rfl rfl (by kernel_rfl) (by kernel_rfl) (by kernel_rfl) (fun _ _ _ h => h) (by rfl) ?ya9 (by assumption) ?_
      case ya9 => ((intro w hSw); (try dsimp only at hSw); go_simp <;> (with_reducible rfl))
      try simp only [Act.put, List.setIfInBounds_toArray, List.set_cons_zero, List.set_cons_succ]
      refine held_take 10 (some 25) (v := ?va10) rfl rfl (by kernel_rfl) (by kernel_rfl) (by kernel_rfl) (fun _ _ _ h => h) (by rfl) ?ya10 (by assumption) ?_
      case ya10 => ((intro w hSw); (try dsimp only at hSw); go_simp <;> (with_reducible rfl))
      try simp only [Act.put, List.setIfInBounds_toArray, List.set_cons_zero, List.set_cons_succ]
      refine held_take 11 (some 26) (v := ?va11) rfl rfl (by kernel_rfl) (by kernel_rfl) (by kernel_rfl) (fun _ _ _ h => h) (by rfl) ?ya11 (by assumption) ?_
      case ya11 => ((intro w hSw); (try dsimp only at hSw); go_simp <;> (with_reducible rfl))
      try simp only [Act.put, List.setIfInBounds_toArray, List.set_cons_zero, List.set_cons_succ]
      refine held_take 12 (some 27) (v := ?va12) rfl rfl (by kernel_rfl) (by kernel_rfl) (by kernel_rfl) (fun _ _ _ h => h) (by rfl) ?ya12 (by assumption) ?_
      case ya12 => ((intro w hSw); (try dsimp only at hSw); go_simp <;> (with_reducible rfl))
      try simp only [Act.put, List.setIfInBounds_toArray, List.set_cons_zero, List.set_cons_succ]
      refine held_take 13 (some 28) (v := ?va13) rfl rfl (by kernel_rfl) (by kernel_rfl) (by kernel_rfl) (fun _ _ _ h => h) (by rfl) ?ya13 (by assumption) ?_
      case ya13 => ((intro w hSw); (try dsimp only at hSw); go_simp <;> (with_reducible rfl))
      try simp only [Act.put, List.setIfInBounds_toArray, List.set_cons_zero, List.set_cons_succ]
      refine wpAnyH_ready (rs := [5]) (by kernel_rfl) (by simp) ?_
      refine AllReadyH.cons rfl (fun K hK => ?_) AllReadyH.nil
      go_simp
      refine (IHL.out pl _ HLD.out (by have := HSZ.out; omega) HHL.out).mono ?_
      rintro e w4 ⟨⟨p4, rfl, ht4⟩, hb4⟩
      have K4 := cells4_below (by assumption) hb4
      have HT4 := Aside0.mk ht4
      have HR4 := Aside0.mk (HRD.out.below hb4)
      have HB4 := Aside0.mk (HBD.out.trans (hb4.mono HBD.out.size))
      clear ht4 hb4
      refine hK.out _ _ ?hSa6 (fun hHeld => ?_)
      case hSa6 => first | assumption | go_keep
      clear hK K
      try simp only [Act.put, List.setIfInBounds_toArray, List.set_cons_zero, List.set_cons_succ]
      refine wpAnyH_ready (rs := [14]) (by kernel_rfl) (by simp) ?_
      refine AllReadyH.cons rfl (fun K hK => ?_) AllReadyH.nil
      go_simp
      refine (even_any p4 (withoutT k l) k1 v1 pr r _ HT4.out HR4.out (by have := HSZ.out; have := HZL.out; omega)).mono ?_
      rintro e w5 ⟨⟨p5, rfl, ht5⟩, hb5⟩
      have K5 := cells4_below (by assumption) hb5
      have HT5 := Aside0.mk ht5
      have HB5 := Aside0.mk (HB4.out.trans (hb5.mono HB4.out.size))
      clear ht5 hb5
      refine hK.out _ _ ?hSa15 (fun hHeld => ?_)
      case hSa15 => first | assumption | go_keep
      clear hK K
      try simp only [Act.put, List.setIfInBounds_toArray, List.set_cons_zero, List.set_cons_succ]
      refine held_take 15 (some 4) (v := ?va15) rfl rfl (by kernel_rfl) (by kernel_rfl) (by kernel_rfl) (fun _ _ _ h => h) (by rfl) ?ya15 (by assumption) ?_
      case ya15 => ((intro w hSw); (try dsimp only at hSw); go_simp <;> (with_reducible rfl))
      try simp only [Act.put, List.setIfInBounds_toArray, List.set_cons_zero, List.set_cons_succ]
      refine wpAnyH_done (by kernel_rfl) ?_ _
      go_wp2
      go_ret
      exact ⟨⟨_, rfl, by rw [HEV.out]; exact HT5.out⟩, HB5.out⟩
    · by_cases c2 : k1 < k
      · have HHR := Aside0.mk (show hasT k r = true from by have := HH.out; rwa [if_neg c1, if_pos (show k > k1 from c2)] at this)
        have HEV := Aside0.mk (show withoutT k (.node l k1 v1 r) = evenT l k1 v1 (withoutT k r) from by conv => lhs; unfold withoutT; rw [if_neg c1, if_pos (show k > k1 from c2)])
        go_wp2_with fail
        refine wp_region_held_drew (S := (fun w' => w'.cell? ⟨g, 0, none⟩ = some (.int .u64 k1) ∧ w'.cell? ⟨g, 1, none⟩ = some (.int .i64 v1) ∧ w'.cell? ⟨g, 2, none⟩ = some (.pointer pl) ∧ w'.cell? ⟨g, 3, none⟩ = some (.pointer pr))) (by kernel_rfl) ?hSb0 (fun hHeld => ?_)
        case hSb0 => first | assumption | go_keep
        refine held_take 0 (some 38) (v := ?vb0) rfl rfl (by kernel_rfl) (by kernel_rfl) (by kernel_rfl) (fun _ _ _ h => h) (by rfl) ?yb0 (by assumption) ?_
        case yb0 => ((intro w hSw); (try dsimp only at hSw); go_simp <;> (with_reducible rfl))
        try simp only [Act.put, List.setIfInBounds_toArray, List.set_cons_zero, List.set_cons_succ]
        refine held_take 1 (some 39) (v := ?vb1) rfl rfl (by kernel_rfl) (by kernel_rfl) (by kernel_rfl) (fun _ _ _ h => h) (by rfl) ?yb1 (by assumption) ?_
        case yb1 => ((intro w hSw); (try dsimp only at hSw); go_simp <;> (with_reducible rfl))
        try simp only [Act.put, List.setIfInBounds_toArray, List.set_cons_zero, List.set_cons_succ]
        refine held_take 2 (some 40) (v := ?vb2) rfl rfl (by kernel_rfl) (by kernel_rfl) (by kernel_rfl) (fun _ _ _ h => h) (by rfl) ?yb2 (by assumption) ?_
        case yb2 => ((intro w hSw); (try dsimp only at hSw); go_simp <;> (with_reducible rfl))
        try simp only [Act.put, List.setIfInBounds_toArray, List.set_cons_zero, List.set_cons_succ]
        refine held_take 3 (some 41) (v := ?vb3) rfl rfl (by kernel_rfl) (by kernel_rfl) (by kernel_rfl) (fun _ _ _ h => h) (by rfl) ?yb3 (by assumption) ?_
        case yb3 => ((intro w hSw); (try dsimp only at hSw); go_simp <;> (with_reducible rfl))
        try simp only [Act.put, List.setIfInBounds_toArray, List.set_cons_zero, List.set_cons_succ]
        refine held_take 4 (some 42) (v := ?vb4) rfl rfl (by kernel_rfl) (by kernel_rfl) (by kernel_rfl) (fun _ _ _ h => h) (by rfl) ?yb4 (by assumption) ?_
        case yb4 => ((intro w hSw); (try dsimp only at hSw); go_simp <;> (with_reducible rfl))
        try simp only [Act.put, List.setIfInBounds_toArray, List.set_cons_zero, List.set_cons_succ]
        refine held_take 5 (some 43) (v := ?vb5) rfl rfl (by kernel_rfl) (by kernel_rfl) (by kernel_rfl) (fun _ _ _ h => h) (by rfl) ?yb5 (by assumption) ?_
        case yb5 => ((intro w hSw); (try dsimp only at hSw); go_simp <;> (with_reducible rfl))
        try simp only [Act.put, List.setIfInBounds_toArray, List.set_cons_zero, List.set_cons_succ]
        refine held_take 6 (some 44) (v := ?vb6) rfl rfl (by kernel_rfl) (by kernel_rfl) (by kernel_rfl) (fun _ _ _ h => h) (by rfl) ?yb6 (by assumption) ?_
        case yb6 => ((intro w hSw); (try dsimp only at hSw); go_simp <;> (with_reducible rfl))
        try simp only [Act.put, List.setIfInBounds_toArray, List.set_cons_zero, List.set_cons_succ]
        refine held_take 7 (some 45) (v := ?vb7) rfl rfl (by kernel_rfl) (by kernel_rfl) (by kernel_rfl) (fun _ _ _ h => h) (by rfl) ?yb7 (by assumption) ?_
        case yb7 => ((intro w hSw); (try dsimp only at hSw); go_simp <;> (with_reducible rfl))
        try simp only [Act.put, List.setIfInBounds_toArray, List.set_cons_zero, List.set_cons_succ]
        refine held_take 8 (some 46) (v := ?vb8) rfl rfl (by kernel_rfl) (by kernel_rfl) (by kernel_rfl) (fun _ _ _ h => h) (by rfl) ?yb8 (by assumption) ?_
        case yb8 => ((intro w hSw); (try dsimp only at hSw); go_simp <;> (with_reducible rfl))
        try simp only [Act.put, List.setIfInBounds_toArray, List.set_cons_zero, List.set_cons_succ]
        refine held_take 9 (some 47) (v := ?vb9) rfl rfl (by kernel_rfl) (by kernel_rfl) (by kernel_rfl) (fun _ _ _ h => h) (by rfl) ?yb9 (by assumption) ?_
        case yb9 => ((intro w hSw); (try dsimp only at hSw); go_simp <;> (with_reducible rfl))
        try simp only [Act.put, List.setIfInBounds_toArray, List.set_cons_zero, List.set_cons_succ]
        refine held_take 10 (some 48) (v := ?vb10) rfl rfl (by kernel_rfl) (by kernel_rfl) (by kernel_rfl) (fun _ _ _ h => h) (by rfl) ?yb10 (by assumption) ?_
        case yb10 => ((intro w hSw); (try dsimp only at hSw); go_simp <;> (with_reducible rfl))
        try simp only [Act.put, List.setIfInBounds_toArray, List.set_cons_zero, List.set_cons_succ]
        refine held_take 11 (some 49) (v := ?vb11) rfl rfl (by kernel_rfl) (by kernel_rfl) (by kernel_rfl) (fun _ _ _ h => h) (by rfl) ?yb11 (by assumption) ?_
        case yb11 => ((intro w hSw); (try dsimp only at hSw); go_simp <;> (with_reducible rfl))
        try simp only [Act.put, List.setIfInBounds_toArray, List.set_cons_zero, List.set_cons_succ]
        refine held_take 12 (some 50) (v := ?vb12) rfl rfl (by kernel_rfl) (by kernel_rfl) (by kernel_rfl) (fun _ _ _ h => h) (by rfl) ?yb12 (by assumption) ?_
        case yb12 => ((intro w hSw); (try dsimp only at hSw); go_simp <;> (with_reducible rfl))
        try simp only [Act.put, List.setIfInBounds_toArray, List.set_cons_zero, List.set_cons_succ]
        refine wpAnyH_ready (rs := [13]) (by kernel_rfl) (by simp) ?_
        refine AllReadyH.cons rfl (fun K hK => ?_) AllReadyH.nil
        go_simp
        refine (IHR.out pr _ HRD.out (by have := HSZ.out; omega) HHR.out).mono ?_
        rintro e w4 ⟨⟨p4, rfl, ht4⟩, hb4⟩
        have K4 := cells4_below (by assumption) hb4
        have HT4 := Aside0.mk ht4
        have HL4 := Aside0.mk (HLD.out.below hb4)
        have HB4 := Aside0.mk (HBD.out.trans (hb4.mono HBD.out.size))
        clear ht4 hb4
        refine hK.out _ _ ?hSb14 (fun hHeld => ?_)
        case hSb14 => first | assumption | go_keep
        clear hK K
        try simp only [Act.put, List.setIfInBounds_toArray, List.set_cons_zero, List.set_cons_succ]
        refine wpAnyH_ready (rs := [14]) (by kernel_rfl) (by simp) ?_
        refine AllReadyH.cons rfl (fun K hK => ?_) AllReadyH.nil
        go_simp
        refine (even_any pl l k1 v1 p4 (withoutT k r) _ HL4.out HT4.out (by have := HSZ.out; have := HZR.out; omega)).mono ?_
        rintro e w5 ⟨⟨p5, rfl, ht5⟩, hb5⟩
        have K5 := cells4_below (by assumption) hb5
        have HT5 := Aside0.mk ht5
        have HB5 := Aside0.mk (HB4.out.trans (hb5.mono HB4.out.size))
        clear ht5 hb5
        refine hK.out _ _ ?hSb15 (fun hHeld => ?_)
        case hSb15 => first | assumption | go_keep
        clear hK K
        try simp only [Act.put, List.setIfInBounds_toArray, List.set_cons_zero, List.set_cons_succ]
        refine held_take 15 (some 4) (v := ?vb15) rfl rfl (by kernel_rfl) (by kernel_rfl) (by kernel_rfl) (fun _ _ _ h => h) (by rfl) ?yb15 (by assumption) ?_
        case yb15 => ((intro w hSw); (try dsimp only at hSw); go_simp <;> (with_reducible rfl))
        try simp only [Act.put, List.setIfInBounds_toArray, List.set_cons_zero, List.set_cons_succ]
        refine wpAnyH_done (by kernel_rfl) ?_ _
        go_wp2
        go_ret
        exact ⟨⟨_, rfl, by rw [HEV.out]; exact HT5.out⟩, HB5.out⟩
      · cases r with
        | leaf =>
          obtain rfl : pr = none := HR0.out
          have HEV := Aside0.mk (show withoutT k (.node l k1 v1 .leaf) = l from by unfold withoutT; rw [if_neg c1, if_neg (show ¬ k > k1 from c2)])
          go_wp2_with fail
          go_ret
          exact ⟨⟨_, rfl, by rw [HEV.out]; exact HL0.out⟩, Below.refl _ _⟩
        | node rl rk rv rr =>
          obtain ⟨gr, prl, prr, rfl, _, _, _⟩ := id HR0.out
          have HEV := Aside0.mk (show withoutT k (.node l k1 v1 (.node rl rk rv rr)) = evenT l (leastT (.node rl rk rv rr)).1.1 (leastT (.node rl rk rv rr)).1.2 (leastT (.node rl rk rv rr)).2 from by unfold withoutT; rw [if_neg c1, if_neg (show ¬ k > k1 from c2)])
          have HZ := Aside0.mk (sz_least (.node rl rk rv rr))
          have HLE := Aside0.mk (least_any (.node rl rk rv rr) rl rk rv rr rfl _ w HR0.out (by have := HSZ.out; omega))
          generalize withoutT k (.node l k1 v1 (.node rl rk rv rr)) = res at *
          generalize T.node rl rk rv rr = r at *
          generalize leastT r = lres at *
          obtain ⟨⟨x0, x1⟩, lt⟩ := lres
          simp only [] at HEV HZ HLE
          go_wp2_with fail
          refine HLE.out.mono ?_
          rintro e w1 ⟨⟨q1, rfl, hq1⟩, hb1⟩
          have HB1 := Aside0.mk hb1
          have HG1 := Aside0.mk (blk_below HG0.out hb1)
          have HL1 := Aside0.mk (HL0.out.below hb1)
          have HQ1 := Aside0.mk hq1
          clear hq1 hb1 hN HLD HRD HBD d0 d3 d2 HG0 HL0 HR0
          go_wp2_with fail
          generalize hbx2 : (w1.alloc (.cells #[.int .u64 x0, .int .i64 x1] 45)) = w2 at *
          have hb2 : Below w1.heap.size w1 w2 := by rw [← hbx2]; exact (Below.refl w1.heap.size w1).alloc (Nat.le_refl _) _
          have HX2 := Aside0.mk (show w2.heap[w1.heap.size]? = some (.cells #[.int .u64 x0, .int .i64 x1] 45 (0, 0)) from by rw [← hbx2]; exact blk_new w1 _)
          have HB2 := Aside0.mk (HB1.out.trans (hb2.mono HB1.out.size))
          have HG2 := Aside0.mk (blk_below HG1.out hb2)
          have HLD := Aside0.mk ((HL1.out.below hb2).below (below_drew (Below.refl _ w2)))
          have HQD := Aside0.mk ((HQ1.out.below hb2).below (below_drew (Below.refl _ w2)))
          have HBD := Aside0.mk (HB2.out.trans ((below_drew (Below.refl _ w2)).mono HB2.out.size))
          clear hb2 hbx2 HB1 HG1 HL1 HQ1
          have hN : w2.cell? ⟨g, 0, none⟩ = some (.int .u64 k1) ∧ w2.cell? ⟨g, 1, none⟩ = some (.int .i64 v1) ∧ w2.cell? ⟨g, 2, none⟩ = some (.pointer pl) ∧ w2.cell? ⟨g, 3, none⟩ = some (.pointer (some ⟨gr, 0, none⟩)) ∧ w2.cell? ⟨w1.heap.size, 0, none⟩ = some (.int .u64 x0) ∧ w2.cell? ⟨w1.heap.size, 1, none⟩ = some (.int .i64 x1) :=
            ⟨(node_cells HG2.out).1, (node_cells HG2.out).2.1, (node_cells HG2.out).2.2.1, (node_cells HG2.out).2.2.2, blk_cell HX2.out 0, blk_cell HX2.out 1⟩
          refine wp_region_held_drew (S := (fun w' => w'.cell? ⟨g, 0, none⟩ = some (.int .u64 k1) ∧ w'.cell? ⟨g, 1, none⟩ = some (.int .i64 v1) ∧ w'.cell? ⟨g, 2, none⟩ = some (.pointer pl) ∧ w'.cell? ⟨g, 3, none⟩ = some (.pointer (some ⟨gr, 0, none⟩)) ∧ w'.cell? ⟨w1.heap.size, 0, none⟩ = some (.int .u64 x0) ∧ w'.cell? ⟨w1.heap.size, 1, none⟩ = some (.int .i64 x1))) (by kernel_rfl) ?hSc0 (fun hHeld => ?_)
          case hSc0 => first | assumption | go_keep
          refine held_take 0 (some 71) (v := ?vc0) rfl rfl (by kernel_rfl) (by kernel_rfl) (by kernel_rfl) (fun _ _ _ h => h) (by rfl) ?yc0 (by assumption) ?_
          case yc0 => ((intro w hSw); (try dsimp only at hSw); go_simp <;> (with_reducible rfl))
          try simp only [Act.put, List.setIfInBounds_toArray, List.set_cons_zero, List.set_cons_succ]
          refine held_take 1 (some 72) (v := ?vc1) rfl rfl (by kernel_rfl) (by kernel_rfl) (by kernel_rfl) (fun _ _ _ h => h) (by rfl) ?yc1 (by assumption) ?_
          case yc1 => ((intro w hSw); (try dsimp only at hSw); go_simp <;> (with_reducible rfl))
          try simp only [Act.put, List.setIfInBounds_toArray, List.set_cons_zero, List.set_cons_succ]
          refine held_take 2 (some 73) (v := ?vc2) rfl rfl (by kernel_rfl) (by kernel_rfl) (by kernel_rfl) (fun _ _ _ h => h) (by rfl) ?yc2 (by assumption) ?_
          case yc2 => ((intro w hSw); (try dsimp only at hSw); go_simp <;> (with_reducible rfl))
          try simp only [Act.put, List.setIfInBounds_toArray, List.set_cons_zero, List.set_cons_succ]
          refine held_take 3 (some 74) (v := ?vc3) rfl rfl (by kernel_rfl) (by kernel_rfl) (by kernel_rfl) (fun _ _ _ h => h) (by rfl) ?yc3 (by assumption) ?_
          case yc3 => ((intro w hSw); (try dsimp only at hSw); go_simp <;> (with_reducible rfl))
          try simp only [Act.put, List.setIfInBounds_toArray, List.set_cons_zero, List.set_cons_succ]
          refine held_take 4 (some 75) (v := ?vc4) rfl rfl (by kernel_rfl) (by kernel_rfl) (by kernel_rfl) (fun _ _ _ h => h) (by rfl) ?yc4 (by assumption) ?_
          case yc4 => ((intro w hSw); (try dsimp only at hSw); go_simp <;> (with_reducible rfl))
          try simp only [Act.put, List.setIfInBounds_toArray, List.set_cons_zero, List.set_cons_succ]
          refine held_take 5 (some 76) (v := ?vc5) rfl rfl (by kernel_rfl) (by kernel_rfl) (by kernel_rfl) (fun _ _ _ h => h) (by rfl) ?yc5 (by assumption) ?_
          case yc5 => ((intro w hSw); (try dsimp only at hSw); go_simp <;> (with_reducible rfl))
          try simp only [Act.put, List.setIfInBounds_toArray, List.set_cons_zero, List.set_cons_succ]
          refine wpAnyH_ready (rs := [6]) (by kernel_rfl) (by simp) ?_
          refine AllReadyH.cons rfl (fun K hK => ?_) AllReadyH.nil
          go_simp
          refine (even_any pl l x0 x1 q1 lt _ HLD.out HQD.out (by have := HSZ.out; have := HZ.out; omega)).mono ?_
          rintro e w5 ⟨⟨p5, rfl, ht5⟩, hb5⟩
          have K5 := cells6_below (by assumption) hb5
          have HT5 := Aside0.mk ht5
          have HB5 := Aside0.mk (HBD.out.trans (hb5.mono HBD.out.size))
          clear ht5 hb5
          refine hK.out _ _ ?hSc7 (fun hHeld => ?_)
          case hSc7 => first | assumption | go_keep
          clear hK K
          try simp only [Act.put, List.setIfInBounds_toArray, List.set_cons_zero, List.set_cons_succ]
          refine held_take 7 (some 4) (v := ?vc7) rfl rfl (by kernel_rfl) (by kernel_rfl) (by kernel_rfl) (fun _ _ _ h => h) (by rfl) ?yc7 (by assumption) ?_
          case yc7 => ((intro w hSw); (try dsimp only at hSw); go_simp <;> (with_reducible rfl))
          try simp only [Act.put, List.setIfInBounds_toArray, List.set_cons_zero, List.set_cons_succ]
          refine wpAnyH_done (by kernel_rfl) ?_ _
          go_wp2
          go_ret
          exact ⟨⟨_, rfl, by rw [HEV.out]; exact HT5.out⟩, HB5.out⟩
end Go.Proofs.Ytbiccahkniadfaa.H
