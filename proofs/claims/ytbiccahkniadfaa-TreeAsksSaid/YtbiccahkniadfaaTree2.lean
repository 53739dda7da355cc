/- even: walked. -/
import Derived.Test.YtbiccahkniadfaaTree1
namespace Go.Proofs.Ytbiccahkniadfaa.H
open Go.RowKit Go.Proofs.Ytbiccahkniadfaa.P Go.Proofs.YtbiccahkniadfaaW.PrintWords Go.Proofs.YtbiccahkniadfaaW.PrintLast Go.Proofs.YtbiccahkniadfaaW.PrintMore
set_option linter.unusedVariables false
set_option linter.unusedSimpArgs false
def evenT (l : T) (k v : Int) (r : T) : T :=
  if ht l > ht r + 1 then
    match l with
    | .leaf => .node l k v r
    | .node ll lk lv lr =>
      if ht ll ≥ ht lr then .node ll lk lv (.node lr k v r)
      else match lr with
        | .leaf => .node l k v r
        | .node m1 mk mv m2 => .node (.node ll lk lv m1) mk mv (.node m2 k v r)
  else if ht r > ht l + 1 then
    match r with
    | .leaf => .node l k v r
    | .node rl rk rv rr =>
      if ht rr ≥ ht rl then .node (.node l k v rl) rk rv rr
      else match rl with
        | .leaf => .node l k v r
        | .node m1 mk mv m2 => .node (.node l k v m1) mk mv (.node m2 rk rv rr)
  else .node l k v r
theorem cells2_below {w w' : World} {a0 a1 : Addr} {v0 v1 : Value} (h : w.cell? a0 = some v0 ∧ w.cell? a1 = some v1) (hb : Below w.heap.size w w') : w'.cell? a0 = some v0 ∧ w'.cell? a1 = some v1 := ⟨pw_cell_below hb h.1, pw_cell_below hb h.2⟩
theorem cells4_below {w w' : World} {a0 a1 a2 a3 : Addr} {v0 v1 v2 v3 : Value} (h : w.cell? a0 = some v0 ∧ w.cell? a1 = some v1 ∧ w.cell? a2 = some v2 ∧ w.cell? a3 = some v3) (hb : Below w.heap.size w w') : w'.cell? a0 = some v0 ∧ w'.cell? a1 = some v1 ∧ w'.cell? a2 = some v2 ∧ w'.cell? a3 = some v3 := ⟨pw_cell_below hb h.1, pw_cell_below hb h.2.1, pw_cell_below hb h.2.2.1, pw_cell_below hb h.2.2.2⟩
theorem cells6_below {w w' : World} {a0 a1 a2 a3 a4 a5 : Addr} {v0 v1 v2 v3 v4 v5 : Value} (h : w.cell? a0 = some v0 ∧ w.cell? a1 = some v1 ∧ w.cell? a2 = some v2 ∧ w.cell? a3 = some v3 ∧ w.cell? a4 = some v4 ∧ w.cell? a5 = some v5) (hb : Below w.heap.size w w') : w'.cell? a0 = some v0 ∧ w'.cell? a1 = some v1 ∧ w'.cell? a2 = some v2 ∧ w'.cell? a3 = some v3 ∧ w'.cell? a4 = some v4 ∧ w'.cell? a5 = some v5 := ⟨pw_cell_below hb h.1, pw_cell_below hb h.2.1, pw_cell_below hb h.2.2.1, pw_cell_below hb h.2.2.2.1, pw_cell_below hb h.2.2.2.2.1, pw_cell_below hb h.2.2.2.2.2⟩
theorem cells10_below {w w' : World} {a0 a1 a2 a3 a4 a5 a6 a7 a8 a9 : Addr} {v0 v1 v2 v3 v4 v5 v6 v7 v8 v9 : Value} (h : w.cell? a0 = some v0 ∧ w.cell? a1 = some v1 ∧ w.cell? a2 = some v2 ∧ w.cell? a3 = some v3 ∧ w.cell? a4 = some v4 ∧ w.cell? a5 = some v5 ∧ w.cell? a6 = some v6 ∧ w.cell? a7 = some v7 ∧ w.cell? a8 = some v8 ∧ w.cell? a9 = some v9) (hb : Below w.heap.size w w') : w'.cell? a0 = some v0 ∧ w'.cell? a1 = some v1 ∧ w'.cell? a2 = some v2 ∧ w'.cell? a3 = some v3 ∧ w'.cell? a4 = some v4 ∧ w'.cell? a5 = some v5 ∧ w'.cell? a6 = some v6 ∧ w'.cell? a7 = some v7 ∧ w'.cell? a8 = some v8 ∧ w'.cell? a9 = some v9 := ⟨pw_cell_below hb h.1, pw_cell_below hb h.2.1, pw_cell_below hb h.2.2.1, pw_cell_below hb h.2.2.2.1, pw_cell_below hb h.2.2.2.2.1, pw_cell_below hb h.2.2.2.2.2.1, pw_cell_below hb h.2.2.2.2.2.2.1, pw_cell_below hb h.2.2.2.2.2.2.2.1, pw_cell_below hb h.2.2.2.2.2.2.2.2.1, pw_cell_below hb h.2.2.2.2.2.2.2.2.2⟩
/-- What is known of a tree that may be made of. -/
theorem node_cells {W : World} {g : Nat} {k v : Int} {pl pr : Option Addr} {H S : Int} (h : W.heap[g]? = some (.cells #[.int .u64 k, .int .i64 v, .pointer pl, .pointer pr, .int .i64 H, .int .i64 S] 68 (0, 0))) :
    W.cell? ⟨g, 0, none⟩ = some (.int .u64 k) ∧ W.cell? ⟨g, 1, none⟩ = some (.int .i64 v) ∧ W.cell? ⟨g, 2, none⟩ = some (.pointer pl) ∧ W.cell? ⟨g, 3, none⟩ = some (.pointer pr) :=
  ⟨blk_cell h 0, blk_cell h 1, blk_cell h 2, blk_cell h 3⟩
/-- What made comes to. -/
def Made (B : Nat) (w : World) (t : T) (e : Ending) (w' : World) : Prop := (∃ p, e = .returned (.pointer p) ∧ TreeAt w' p t) ∧ Below B w w'
set_option maxRecDepth 20000 in
set_option maxHeartbeats 4000000 in
theorem even_any (pl : Option Addr) (l : T) (k v : Int) (pr : Option Addr) (r : T) (w : World) (hl : TreeAt w pl l) (hr : TreeAt w pr r) (hs : sz l + sz r ≤ 50000) :
    Calls Try.prog 39 #[.pointer pl, .agg #[.int .u64 k, .int .i64 v], .pointer pr] w fun e w' => (∃ p, e = .returned (.pointer p) ∧ TreeAt w' p (evenT l k v r)) ∧ Below w.heap.size w w' := by
  have HB0 := Aside0.mk ((Below.refl w.heap.size w).alloc (Nat.le_refl _) (.cells #[.int .u64 k, .int .i64 v] 45))
  have HX0 := Aside0.mk (blk_new w (.cells #[.int .u64 k, .int .i64 v] 45))
  have HL := Aside0.mk (hl.below HB0.out)
  have HR := Aside0.mk (hr.below HB0.out)
  have hl1 := ht_le l
  have hr1 := ht_le r
  clear hl hr
  go_enter Try.func39, Try.ntmps39
  go_wp2_with fail
  generalize (w.alloc (.cells #[.int .u64 k, .int .i64 v] 45)) = w0 at *
  have WR := Aside0.mk (show ∀ t : T, ht t ≤ 50000 → IntKind.i64.wrap (((ht t : Nat) : Int) + 1) = ((ht t : Nat) : Int) + 1 from fun t h => by rw [IntKind.wrap_i64]; omega)
  have wr := WR.out r (by omega)
  have wl := WR.out l (by omega)
  refine (high_any pl l w0 HL.out).mono ?_
  rintro e w1 ⟨rfl, rfl⟩
  go_wp2_with fail
  refine (high_any pr r w1 HR.out).mono ?_
  rintro e w2 ⟨rfl, rfl⟩
  have hrot1 := fun (hc : ((ht r : Nat) : Int) + 1 < ((ht l : Nat) : Int)) => show ht l > ht r + 1 by omega
  by_cases hc1 : ((ht r : Nat) : Int) + 1 < ((ht l : Nat) : Int)
  · have HC1 := Aside0.mk (hrot1 hc1)
    clear hrot1
    go_wp2_with fail
    cases l with
    | leaf => simp [ht] at hc1; omega
    | node ll lk lv lr =>
      obtain ⟨gl, pll, plr, rfl, hgl, hll, hlr⟩ := HL.out
      have HLL := Aside0.mk hll
      have HLR := Aside0.mk hlr
      have HG := Aside0.mk hgl
      have n0 := (node_cells hgl).2.2.1
      have n1 := (node_cells hgl).2.2.2
      have hcA := fun n => high_any pll ll (w2.drewN n) (HLL.out.drewN n)
      have hcB := fun n => high_any plr lr (w2.drewN n) (HLR.out.drewN n)
      have hszl : sz ll + sz lr + 1 ≤ 50000 := by simp only [sz] at hs; omega
      have HSZ := Aside0.mk (show sz ll + sz lr + 1 + sz r ≤ 50000 by simp only [sz] at hs; omega)
      have HH := Aside0.mk (show ht (.node ll lk lv lr) = 1 + max (ht ll) (ht lr) from rfl)
      clear hll hlr hgl hl1 hs hc1
      generalize ((ht (.node ll lk lv lr) : Nat) : Int) = hh at *
      go_quiet (first | (go_at_call 31; (first | (with_reducible refine (hcA _).mono ?_) | (with_reducible refine (hcB _).mono ?_)); rintro e w' ⟨rfl, rfl⟩; exact ⟨rfl, _, rfl⟩))

      have HB3 := Aside0.mk (below_drewN HB0.out nq)
      have HX3 := Aside0.mk (show (w2.drewN nq).heap[w.heap.size]? = some (.cells #[.int .u64 k, .int .i64 v] 45 (0, 0)) from HX0.out)
      have HG3 := Aside0.mk (show (w2.drewN nq).heap[gl]? = _ from HG.out)
      have HO3 := Aside0.mk (HR.out.drewN nq)
      have Hll3 := Aside0.mk (HLL.out.drewN nq)
      have Hlr3 := Aside0.mk (HLR.out.drewN nq)
      clear n0 n1 hcA hcB HB0 HX0 HG HR HLL HLR
      generalize w2.drewN nq = w3 at *
      have hN : w3.cell? ⟨gl, 0, none⟩ = some (.int .u64 lk) ∧ w3.cell? ⟨gl, 1, none⟩ = some (.int .i64 lv) ∧ w3.cell? ⟨gl, 2, none⟩ = some (.pointer pll) ∧ w3.cell? ⟨gl, 3, none⟩ = some (.pointer plr) ∧ w3.cell? ⟨w.heap.size, 0, none⟩ = some (.int .u64 k) ∧ w3.cell? ⟨w.heap.size, 1, none⟩ = some (.int .i64 v) :=
        ⟨(node_cells HG3.out).1, (node_cells HG3.out).2.1, (node_cells HG3.out).2.2.1, (node_cells HG3.out).2.2.2, blk_cell HX3.out 0, blk_cell HX3.out 1⟩
      have HOD := Aside0.mk (HO3.out.below (below_drew (Below.refl _ w3)))
      have HllD := Aside0.mk (Hll3.out.below (below_drew (Below.refl _ w3)))
      have HlrD := Aside0.mk (Hlr3.out.below (below_drew (Below.refl _ w3)))
      have HBD := Aside0.mk (HB3.out.trans ((below_drew (Below.refl _ w3)).mono HB3.out.size))
      by_cases hc2 : ht lr ≤ ht ll
      · have HEV := Aside0.mk (show evenT (.node ll lk lv lr) k v r = .node ll lk lv (.node lr k v r) from by unfold evenT; rw [if_pos HC1.out]; simp [hc2])
        go_wp2_with fail
        refine wp_region_held_drew (S := (fun w' => w'.cell? ⟨gl, 0, none⟩ = some (.int .u64 lk) ∧ w'.cell? ⟨gl, 1, none⟩ = some (.int .i64 lv) ∧ w'.cell? ⟨gl, 2, none⟩ = some (.pointer pll) ∧ w'.cell? ⟨gl, 3, none⟩ = some (.pointer plr) ∧ w'.cell? ⟨w.heap.size, 0, none⟩ = some (.int .u64 k) ∧ w'.cell? ⟨w.heap.size, 1, none⟩ = some (.int .i64 v))) (by kernel_rfl) ?hSa0 (fun hHeld => ?_)
        case hSa0 => first | assumption | go_keep
        refine held_take 0 (some 27) (v := ?va0) rfl rfl (by kernel_rfl) (by kernel_rfl) (by kernel_rfl) (fun _ _ _ h => h) (by rfl) ?ya0 (by assumption) ?_
        case ya0 => ((intro w hSw); (try dsimp only at hSw); go_simp <;> (with_reducible rfl))
        try simp only [Act.put, List.setIfInBounds_toArray, List.set_cons_zero, List.set_cons_succ]
        refine held_take 1 (some 28) (v := ?va1) rfl rfl (by kernel_rfl) (by kernel_rfl) (by kernel_rfl) (fun _ _ _ h => h) (by rfl) ?ya1 (by assumption) ?_
        case ya1 => ((intro w hSw); (try dsimp only at hSw); go_simp <;> (with_reducible rfl))
        try simp only [Act.put, List.setIfInBounds_toArray, List.set_cons_zero, List.set_cons_succ]
        refine held_take 2 (some 29) (v := ?va2) rfl rfl (by kernel_rfl) (by kernel_rfl) (by kernel_rfl) (fun _ _ _ h => h) (by rfl) ?ya2 (by assumption) ?_
        case ya2 => ((intro w hSw); (try dsimp only at hSw); go_simp <;> (with_reducible rfl))
        try simp only [Act.put, List.setIfInBounds_toArray, List.set_cons_zero, List.set_cons_succ]
        refine held_take 3 (some 30) (v := ?va3) rfl rfl (by kernel_rfl) (by kernel_rfl) (by kernel_rfl) (fun _ _ _ h => h) (by rfl) ?ya3 (by assumption) ?_
        case ya3 => ((intro w hSw); (try dsimp only at hSw); go_simp <;> (with_reducible rfl))
        try simp only [Act.put, List.setIfInBounds_toArray, List.set_cons_zero, List.set_cons_succ]
        refine held_take 4 (some 31) (v := ?va4) rfl rfl (by kernel_rfl) (by kernel_rfl) (by kernel_rfl) (fun _ _ _ h => h) (by rfl) ?ya4 (by assumption) ?_
        case ya4 => ((intro w hSw); (try dsimp only at hSw); go_simp <;> (with_reducible rfl))
        try simp only [Act.put, List.setIfInBounds_toArray, List.set_cons_zero, List.set_cons_succ]
        refine held_take 5 (some 32) (v := ?va5) rfl rfl (by kernel_rfl) (by kernel_rfl) (by kernel_rfl) (fun _ _ _ h => h) (by rfl) ?ya5 (by assumption) ?_
        case ya5 => ((intro w hSw); (try dsimp only at hSw); go_simp <;> (with_reducible rfl))
        try simp only [Act.put, List.setIfInBounds_toArray, List.set_cons_zero, List.set_cons_succ]
        refine held_take 6 (some 33) (v := ?va6) rfl rfl (by kernel_rfl) (by kernel_rfl) (by kernel_rfl) (fun _ _ _ h => h) (by rfl) ?ya6 (by assumption) ?_
        case ya6 => ((intro w hSw); (try dsimp only at hSw); go_simp <;> (with_reducible rfl))
        try simp only [Act.put, List.setIfInBounds_toArray, List.set_cons_zero, List.set_cons_succ]
        refine held_take 7 (some 34) (v := ?va7) rfl rfl (by kernel_rfl) (by kernel_rfl) (by kernel_rfl) (fun _ _ _ h => h) (by rfl) ?ya7 (by assumption) ?_
        case ya7 => ((intro w hSw); (try dsimp only at hSw); go_simp <;> (with_reducible rfl))
        try simp only [Act.put, List.setIfInBounds_toArray, List.set_cons_zero, List.set_cons_succ]
        refine held_take 8 (some 35) (v := ?va8) rfl rfl (by kernel_rfl) (by kernel_rfl) (by kernel_rfl) (fun _ _ _ h => h) (by rfl) ?ya8 (by assumption) ?_
        case ya8 => ((intro w hSw); (try dsimp only at hSw); go_simp <;> (with_reducible rfl))
        try simp only [Act.put, List.setIfInBounds_toArray, List.set_cons_zero, List.set_cons_succ]
        refine held_take 9 (some 36) (v := ?va9) rfl rfl (by kernel_rfl) (by kernel_rfl) (by kernel_rfl) (fun _ _ _ h => h) (by rfl) ?ya9 (by assumption) ?_
        case ya9 => ((intro w hSw); (try dsimp only at hSw); go_simp <;> (with_reducible rfl))
        try simp only [Act.put, List.setIfInBounds_toArray, List.set_cons_zero, List.set_cons_succ]
        refine held_take 10 (some 37) (v := ?va10) rfl rfl (by kernel_rfl) (by kernel_rfl) (by kernel_rfl) (fun _ _ _ h => h) (by rfl) ?ya10 (by assumption) ?_
        case ya10 => ((intro w hSw); (try dsimp only at hSw); go_simp <;> (with_reducible rfl))
        try simp only [Act.put, List.setIfInBounds_toArray, List.set_cons_zero, List.set_cons_succ]
        refine held_take 11 (some 38) (v := ?va11) rfl rfl (by kernel_rfl) (by kernel_rfl) (by kernel_rfl) (fun _ _ _ h => h) (by rfl) ?ya11 (by assumption) ?_
        case ya11 => ((intro w hSw); (try dsimp only at hSw); go_simp <;> (with_reducible rfl))
        try simp only [Act.put, List.setIfInBounds_toArray, List.set_cons_zero, List.set_cons_succ]
        refine held_take 12 (some 39) (v := ?va12) rfl rfl (by kernel_rfl) (by kernel_rfl) (by kernel_rfl) (fun _ _ _ h => h) (by rfl) ?ya12 (by assumption) ?_
        case ya12 => ((intro w hSw); (try dsimp only at hSw); go_simp <;> (with_reducible rfl))
        try simp only [Act.put, List.setIfInBounds_toArray, List.set_cons_zero, List.set_cons_succ]
        refine held_take 13 (some 40) (v := ?va13) rfl rfl (by kernel_rfl) (by kernel_rfl) (by kernel_rfl) (fun _ _ _ h => h) (by rfl) ?ya13 (by assumption) ?_
        case ya13 => ((intro w hSw); (try dsimp only at hSw); go_simp <;> (with_reducible rfl))
        try simp only [Act.put, List.setIfInBounds_toArray, List.set_cons_zero, List.set_cons_succ]
        refine wpAnyH_ready (rs := [14]) (by kernel_rfl) (by simp) ?_
        refine AllReadyH.cons rfl (fun K hK => ?_) AllReadyH.nil
        go_simp
        refine (made_any plr lr k v pr r _ HlrD.out HOD.out (by have := HSZ.out; omega)).mono ?_
        rintro e w4 ⟨⟨p4, rfl, ht4⟩, hb4⟩
        have K4 := cells6_below (by assumption) hb4
        have HT4 := Aside0.mk ht4
        have HA4 := Aside0.mk (HllD.out.below hb4)
        have HB4 := Aside0.mk (HBD.out.trans (hb4.mono HBD.out.size))
        clear ht4 hb4
        refine hK.out _ _ ?hSa15 (fun hHeld => ?_)
        case hSa15 => first | assumption | go_keep
        clear hK K
        try simp only [Act.put, List.setIfInBounds_toArray, List.set_cons_zero, List.set_cons_succ]
        refine wpAnyH_ready (rs := [15]) (by kernel_rfl) (by simp) ?_
        refine AllReadyH.cons rfl (fun K hK => ?_) AllReadyH.nil
        go_simp
        refine (made_any pll ll lk lv p4 (.node lr k v r) _ HA4.out HT4.out (by have := HSZ.out; simp only [sz]; omega)).mono ?_
        rintro e w5 ⟨⟨p5, rfl, ht5⟩, hb5⟩
        have K5 := cells6_below (by assumption) hb5
        have HT5 := Aside0.mk ht5
        have HB5 := Aside0.mk (HB4.out.trans (hb5.mono HB4.out.size))
        clear ht5 hb5
        refine hK.out _ _ ?hSa16 (fun hHeld => ?_)
        case hSa16 => first | assumption | go_keep
        clear hK K
        try simp only [Act.put, List.setIfInBounds_toArray, List.set_cons_zero, List.set_cons_succ]
        refine held_take 16 (some 6) (v := ?va16) rfl rfl (by kernel_rfl) (by kernel_rfl) (by kernel_rfl) (fun _ _ _ h => h) (by rfl) ?ya16 (by assumption) ?_
        case ya16 => ((intro w hSw); (try dsimp only at hSw); go_simp <;> (with_reducible rfl))
        try simp only [Act.put, List.setIfInBounds_toArray, List.set_cons_zero, List.set_cons_succ]
        refine wpAnyH_done (by kernel_rfl) ?_ _
        go_wp2
        go_ret
        exact ⟨⟨_, rfl, by rw [HEV.out]; exact HT5.out⟩, HB5.out⟩
      · cases lr with
        | leaf => simp [ht] at hc2
        | node m1 mk mv m2 =>
          obtain ⟨gm, pm1, pm2, rfl, hgm, hm1, hm2⟩ := HlrD.out
          have HM1 := Aside0.mk hm1
          have HM2 := Aside0.mk hm2
          have HOTH := Aside0.mk HllD.out
          have HSZ2 := Aside0.mk (show sz ll + (1 + sz m1 + sz m2) + 1 + sz r ≤ 50000 from by have := HSZ.out; simp only [sz] at this; omega)
          have HEV := Aside0.mk (show evenT (.node ll lk lv (.node m1 mk mv m2)) k v r = .node (.node ll lk lv m1) mk mv (.node m2 k v r) from by unfold evenT; rw [if_pos HC1.out]; dsimp only; rw [if_neg (by omega)])
          have m0 : w3.cell? ⟨gm, 0, none⟩ = some (.int .u64 mk) ∧ w3.cell? ⟨gm, 1, none⟩ = some (.int .i64 mv) ∧ w3.cell? ⟨gm, 2, none⟩ = some (.pointer pm1) ∧ w3.cell? ⟨gm, 3, none⟩ = some (.pointer pm2) := node_cells (show w3.heap[gm]? = _ from hgm)
          obtain ⟨q0, q1, q2, q3, q4, q5⟩ := hN
          obtain ⟨m0, m1', m2', m3'⟩ := m0
          have hN := And.intro q0 (And.intro q1 (And.intro q2 (And.intro q3 (And.intro m0 (And.intro m1' (And.intro m2' (And.intro m3' (And.intro q4 q5))))))))
          clear hm1 hm2 hgm m0 m1' m2' m3' q0 q1 q4 q5
          go_wp2_with fail
          refine wp_region_held_drew (S := (fun w' => w'.cell? ⟨gl, 0, none⟩ = some (.int .u64 lk) ∧ w'.cell? ⟨gl, 1, none⟩ = some (.int .i64 lv) ∧ w'.cell? ⟨gl, 2, none⟩ = some (.pointer pll) ∧ w'.cell? ⟨gl, 3, none⟩ = some (.pointer (some ⟨gm, 0, none⟩)) ∧ w'.cell? ⟨gm, 0, none⟩ = some (.int .u64 mk) ∧ w'.cell? ⟨gm, 1, none⟩ = some (.int .i64 mv) ∧ w'.cell? ⟨gm, 2, none⟩ = some (.pointer pm1) ∧ w'.cell? ⟨gm, 3, none⟩ = some (.pointer pm2) ∧ w'.cell? ⟨w.heap.size, 0, none⟩ = some (.int .u64 k) ∧ w'.cell? ⟨w.heap.size, 1, none⟩ = some (.int .i64 v))) (by kernel_rfl) ?hSc0 (fun hHeld => ?_)
          case hSc0 => first | assumption | go_keep
          refine held_take 0 (some 47) (v := ?vc0) rfl rfl (by kernel_rfl) (by kernel_rfl) (by kernel_rfl) (fun _ _ _ h => h) (by rfl) ?yc0 (by assumption) ?_
          case yc0 => ((intro w hSw); (try dsimp only at hSw); go_simp <;> (with_reducible rfl))
          try simp only [Act.put, List.setIfInBounds_toArray, List.set_cons_zero, List.set_cons_succ]
          refine held_take 1 (some 48) (v := ?vc1) rfl rfl (by kernel_rfl) (by kernel_rfl) (by kernel_rfl) (fun _ _ _ h => h) (by rfl) ?yc1 (by assumption) ?_
          case yc1 => ((intro w hSw); (try dsimp only at hSw); go_simp <;> (with_reducible rfl))
          try simp only [Act.put, List.setIfInBounds_toArray, List.set_cons_zero, List.set_cons_succ]
          refine held_take 2 (some 49) (v := ?vc2) rfl rfl (by kernel_rfl) (by kernel_rfl) (by kernel_rfl) (fun _ _ _ h => h) (by rfl) ?yc2 (by assumption) ?_
          case yc2 => ((intro w hSw); (try dsimp only at hSw); go_simp <;> (with_reducible rfl))
          try simp only [Act.put, List.setIfInBounds_toArray, List.set_cons_zero, List.set_cons_succ]
          refine held_take 3 (some 50) (v := ?vc3) rfl rfl (by kernel_rfl) (by kernel_rfl) (by kernel_rfl) (fun _ _ _ h => h) (by rfl) ?yc3 (by assumption) ?_
          case yc3 => ((intro w hSw); (try dsimp only at hSw); go_simp <;> (with_reducible rfl))
          try simp only [Act.put, List.setIfInBounds_toArray, List.set_cons_zero, List.set_cons_succ]
          refine held_take 4 (some 51) (v := ?vc4) rfl rfl (by kernel_rfl) (by kernel_rfl) (by kernel_rfl) (fun _ _ _ h => h) (by rfl) ?yc4 (by assumption) ?_
          case yc4 => ((intro w hSw); (try dsimp only at hSw); go_simp <;> (with_reducible rfl))
          try simp only [Act.put, List.setIfInBounds_toArray, List.set_cons_zero, List.set_cons_succ]
          refine held_take 5 (some 52) (v := ?vc5) rfl rfl (by kernel_rfl) (by kernel_rfl) (by kernel_rfl) (fun _ _ _ h => h) (by rfl) ?yc5 (by assumption) ?_
          case yc5 => ((intro w hSw); (try dsimp only at hSw); go_simp <;> (with_reducible rfl))
          try simp only [Act.put, List.setIfInBounds_toArray, List.set_cons_zero, List.set_cons_succ]
          refine held_take 6 (some 53) (v := ?vc6) rfl rfl (by kernel_rfl) (by kernel_rfl) (by kernel_rfl) (fun _ _ _ h => h) (by rfl) ?yc6 (by assumption) ?_
          case yc6 => ((intro w hSw); (try dsimp only at hSw); go_simp <;> (with_reducible rfl))
          try simp only [Act.put, List.setIfInBounds_toArray, List.set_cons_zero, List.set_cons_succ]
          refine held_take 7 (some 54) (v := ?vc7) rfl rfl (by kernel_rfl) (by kernel_rfl) (by kernel_rfl) (fun _ _ _ h => h) (by rfl) ?yc7 (by assumption) ?_
          case yc7 => ((intro w hSw); (try dsimp only at hSw); go_simp <;> (with_reducible rfl))
          try simp only [Act.put, List.setIfInBounds_toArray, List.set_cons_zero, List.set_cons_succ]
          refine held_take 8 (some 55) (v := ?vc8) rfl rfl (by kernel_rfl) (by kernel_rfl) (by kernel_rfl) (fun _ _ _ h => h) (by rfl) ?yc8 (by assumption) ?_
          case yc8 => ((intro w hSw); (try dsimp only at hSw); go_simp <;> (with_reducible rfl))
          try simp only [Act.put, List.setIfInBounds_toArray, List.set_cons_zero, List.set_cons_succ]
          refine held_take 9 (some 56) (v := ?vc9) rfl rfl (by kernel_rfl) (by kernel_rfl) (by kernel_rfl) (fun _ _ _ h => h) (by rfl) ?yc9 (by assumption) ?_
          case yc9 => ((intro w hSw); (try dsimp only at hSw); go_simp <;> (with_reducible rfl))
          try simp only [Act.put, List.setIfInBounds_toArray, List.set_cons_zero, List.set_cons_succ]
          refine held_take 10 (some 57) (v := ?vc10) rfl rfl (by kernel_rfl) (by kernel_rfl) (by kernel_rfl) (fun _ _ _ h => h) (by rfl) ?yc10 (by assumption) ?_
          case yc10 => ((intro w hSw); (try dsimp only at hSw); go_simp <;> (with_reducible rfl))
          try simp only [Act.put, List.setIfInBounds_toArray, List.set_cons_zero, List.set_cons_succ]
          refine held_take 11 (some 58) (v := ?vc11) rfl rfl (by kernel_rfl) (by kernel_rfl) (by kernel_rfl) (fun _ _ _ h => h) (by rfl) ?yc11 (by assumption) ?_
          case yc11 => ((intro w hSw); (try dsimp only at hSw); go_simp <;> (with_reducible rfl))
          try simp only [Act.put, List.setIfInBounds_toArray, List.set_cons_zero, List.set_cons_succ]
          refine held_take 13 (some 60) (v := ?vc13) rfl rfl (by kernel_rfl) (by kernel_rfl) (by kernel_rfl) (fun _ _ _ h => h) (by rfl) ?yc13 (by assumption) ?_
          case yc13 => ((intro w hSw); (try dsimp only at hSw); go_simp <;> (with_reducible rfl))
          try simp only [Act.put, List.setIfInBounds_toArray, List.set_cons_zero, List.set_cons_succ]
          refine held_take 14 (some 61) (v := ?vc14) rfl rfl (by kernel_rfl) (by kernel_rfl) (by kernel_rfl) (fun _ _ _ h => h) (by rfl) ?yc14 (by assumption) ?_
          case yc14 => ((intro w hSw); (try dsimp only at hSw); go_simp <;> (with_reducible rfl))
          try simp only [Act.put, List.setIfInBounds_toArray, List.set_cons_zero, List.set_cons_succ]
          refine held_take 15 (some 62) (v := ?vc15) rfl rfl (by kernel_rfl) (by kernel_rfl) (by kernel_rfl) (fun _ _ _ h => h) (by rfl) ?yc15 (by assumption) ?_
          case yc15 => ((intro w hSw); (try dsimp only at hSw); go_simp <;> (with_reducible rfl))
          try simp only [Act.put, List.setIfInBounds_toArray, List.set_cons_zero, List.set_cons_succ]
          refine held_take 16 (some 63) (v := ?vc16) rfl rfl (by kernel_rfl) (by kernel_rfl) (by kernel_rfl) (fun _ _ _ h => h) (by rfl) ?yc16 (by assumption) ?_
          case yc16 => ((intro w hSw); (try dsimp only at hSw); go_simp <;> (with_reducible rfl))
          try simp only [Act.put, List.setIfInBounds_toArray, List.set_cons_zero, List.set_cons_succ]
          refine held_take 17 (some 64) (v := ?vc17) rfl rfl (by kernel_rfl) (by kernel_rfl) (by kernel_rfl) (fun _ _ _ h => h) (by rfl) ?yc17 (by assumption) ?_
          case yc17 => ((intro w hSw); (try dsimp only at hSw); go_simp <;> (with_reducible rfl))
          try simp only [Act.put, List.setIfInBounds_toArray, List.set_cons_zero, List.set_cons_succ]
          refine held_take 18 (some 65) (v := ?vc18) rfl rfl (by kernel_rfl) (by kernel_rfl) (by kernel_rfl) (fun _ _ _ h => h) (by rfl) ?yc18 (by assumption) ?_
          case yc18 => ((intro w hSw); (try dsimp only at hSw); go_simp <;> (with_reducible rfl))
          try simp only [Act.put, List.setIfInBounds_toArray, List.set_cons_zero, List.set_cons_succ]
          refine held_take 19 (some 66) (v := ?vc19) rfl rfl (by kernel_rfl) (by kernel_rfl) (by kernel_rfl) (fun _ _ _ h => h) (by rfl) ?yc19 (by assumption) ?_
          case yc19 => ((intro w hSw); (try dsimp only at hSw); go_simp <;> (with_reducible rfl))
          try simp only [Act.put, List.setIfInBounds_toArray, List.set_cons_zero, List.set_cons_succ]
          refine held_take 20 (some 67) (v := ?vc20) rfl rfl (by kernel_rfl) (by kernel_rfl) (by kernel_rfl) (fun _ _ _ h => h) (by rfl) ?yc20 (by assumption) ?_
          case yc20 => ((intro w hSw); (try dsimp only at hSw); go_simp <;> (with_reducible rfl))
          try simp only [Act.put, List.setIfInBounds_toArray, List.set_cons_zero, List.set_cons_succ]
          refine held_take 21 (some 68) (v := ?vc21) rfl rfl (by kernel_rfl) (by kernel_rfl) (by kernel_rfl) (fun _ _ _ h => h) (by rfl) ?yc21 (by assumption) ?_
          case yc21 => ((intro w hSw); (try dsimp only at hSw); go_simp <;> (with_reducible rfl))
          try simp only [Act.put, List.setIfInBounds_toArray, List.set_cons_zero, List.set_cons_succ]
          refine held_take 22 (some 69) (v := ?vc22) rfl rfl (by kernel_rfl) (by kernel_rfl) (by kernel_rfl) (fun _ _ _ h => h) (by rfl) ?yc22 (by assumption) ?_
          case yc22 => ((intro w hSw); (try dsimp only at hSw); go_simp <;> (with_reducible rfl))
          try simp only [Act.put, List.setIfInBounds_toArray, List.set_cons_zero, List.set_cons_succ]
          refine wpAnyH_ready (rs := [12]) (by kernel_rfl) (by simp) ?_
          refine AllReadyH.cons rfl (fun K hK => ?_) AllReadyH.nil
          go_simp
          refine (made_any pll ll lk lv pm1 m1 _ HOTH.out HM1.out (by have := HSZ2.out; (try simp only [sz]); omega)).mono ?_
          rintro e w4 ⟨⟨p4, rfl, ht4⟩, hb4⟩
          have K4 := cells10_below (by assumption) hb4
          have HT4 := Aside0.mk ht4
          have HM24 := Aside0.mk (HM2.out.below hb4)
          have HO4 := Aside0.mk (HOD.out.below hb4)
          have HB4 := Aside0.mk (HBD.out.trans (hb4.mono HBD.out.size))
          clear ht4 hb4
          refine hK.out _ _ ?hSc13 (fun hHeld => ?_)
          case hSc13 => first | assumption | go_keep
          clear hK K
          try simp only [Act.put, List.setIfInBounds_toArray, List.set_cons_zero, List.set_cons_succ]
          refine wpAnyH_ready (rs := [23]) (by kernel_rfl) (by simp) ?_
          refine AllReadyH.cons rfl (fun K hK => ?_) AllReadyH.nil
          go_simp
          refine (made_any pm2 m2 k v pr r _ HM24.out HO4.out (by have := HSZ2.out; (try simp only [sz]); omega)).mono ?_
          rintro e w5 ⟨⟨p5, rfl, ht5⟩, hb5⟩
          have K5 := cells10_below (by assumption) hb5
          have HT5 := Aside0.mk ht5
          have HT45 := Aside0.mk (HT4.out.below hb5)
          have HB5 := Aside0.mk (HB4.out.trans (hb5.mono HB4.out.size))
          clear ht5 hb5
          refine hK.out _ _ ?hSc24 (fun hHeld => ?_)
          case hSc24 => first | assumption | go_keep
          clear hK K
          try simp only [Act.put, List.setIfInBounds_toArray, List.set_cons_zero, List.set_cons_succ]
          refine wpAnyH_ready (rs := [24]) (by kernel_rfl) (by simp) ?_
          refine AllReadyH.cons rfl (fun K hK => ?_) AllReadyH.nil
          go_simp
          refine (made_any p4 (.node ll lk lv m1) mk mv p5 (.node m2 k v r) _ HT45.out HT5.out (by have := HSZ2.out; (try simp only [sz]); omega)).mono ?_
          rintro e w6 ⟨⟨p6, rfl, ht6⟩, hb6⟩
          have K6 := cells10_below (by assumption) hb6
          have HT6 := Aside0.mk ht6
          have HB6 := Aside0.mk (HB5.out.trans (hb6.mono HB5.out.size))
          clear ht6 hb6
          refine hK.out _ _ ?hSc25 (fun hHeld => ?_)
          case hSc25 => first | assumption | go_keep
          clear hK K
          try simp only [Act.put, List.setIfInBounds_toArray, List.set_cons_zero, List.set_cons_succ]
          refine held_take 25 (some 6) (v := ?vc25) rfl rfl (by kernel_rfl) (by kernel_rfl) (by kernel_rfl) (fun _ _ _ h => h) (by rfl) ?yc25 (by assumption) ?_
          case yc25 => ((intro w hSw); (try dsimp only at hSw); go_simp <;> (with_reducible rfl))
          try simp only [Act.put, List.setIfInBounds_toArray, List.set_cons_zero, List.set_cons_succ]
          refine wpAnyH_done (by kernel_rfl) ?_ _
          go_wp2
          go_ret
          exact ⟨⟨_, rfl, by rw [HEV.out]; exact HT6.out⟩, HB6.out⟩
  · have HC0 := Aside0.mk (show ¬ ht l > ht r + 1 by omega)
    clear hrot1
    go_wp2_with fail
    refine (high_any pr r w2 HR.out).mono ?_
    rintro e w3' ⟨rfl, rfl⟩
    go_wp2_with fail
    refine (high_any pl l w3' HL.out).mono ?_
    rintro e w2 ⟨rfl, rfl⟩
    by_cases hc3 : ((ht l : Nat) : Int) + 1 < ((ht r : Nat) : Int)
    · have HC1 := Aside0.mk (show ht r > ht l + 1 by omega)
      clear hc1
      go_wp2_with fail
      cases r with
      | leaf => simp [ht] at hc3; omega
      | node rl rk rv rr =>
        obtain ⟨gr, prl, prr, rfl, hgr, hrl, hrr⟩ := HR.out
        have HRL := Aside0.mk hrl
        have HRR := Aside0.mk hrr
        have HG := Aside0.mk hgr
        have n0 := (node_cells hgr).2.2.1
        have n1 := (node_cells hgr).2.2.2
        have hcA := fun n => high_any prr rr (w2.drewN n) (HRR.out.drewN n)
        have hcB := fun n => high_any prl rl (w2.drewN n) (HRL.out.drewN n)
        have HSZ := Aside0.mk (show sz l + (sz rl + sz rr + 1) ≤ 50000 by simp only [sz] at hs; omega)
        have HH := Aside0.mk (show ht (.node rl rk rv rr) = 1 + max (ht rl) (ht rr) from rfl)
        clear hrl hrr hgr hr1 hs hc3
        generalize ((ht (.node rl rk rv rr) : Nat) : Int) = hh at *
        go_quiet (first | (go_at_call 31; (first | (with_reducible refine (hcA _).mono ?_) | (with_reducible refine (hcB _).mono ?_)); rintro e w' ⟨rfl, rfl⟩; exact ⟨rfl, _, rfl⟩))
        have HB3 := Aside0.mk (below_drewN HB0.out nq)
        have HX3 := Aside0.mk (show (w2.drewN nq).heap[w.heap.size]? = some (.cells #[.int .u64 k, .int .i64 v] 45 (0, 0)) from HX0.out)
        have HG3 := Aside0.mk (show (w2.drewN nq).heap[gr]? = _ from HG.out)
        have HO3 := Aside0.mk (HL.out.drewN nq)
        have Hrl3 := Aside0.mk (HRL.out.drewN nq)
        have Hrr3 := Aside0.mk (HRR.out.drewN nq)
        clear n0 n1 hcA hcB HB0 HX0 HG HL HRL HRR
        generalize w2.drewN nq = w3 at *
        have hN : w3.cell? ⟨gr, 0, none⟩ = some (.int .u64 rk) ∧ w3.cell? ⟨gr, 1, none⟩ = some (.int .i64 rv) ∧ w3.cell? ⟨gr, 2, none⟩ = some (.pointer prl) ∧ w3.cell? ⟨gr, 3, none⟩ = some (.pointer prr) ∧ w3.cell? ⟨w.heap.size, 0, none⟩ = some (.int .u64 k) ∧ w3.cell? ⟨w.heap.size, 1, none⟩ = some (.int .i64 v) :=
          ⟨(node_cells HG3.out).1, (node_cells HG3.out).2.1, (node_cells HG3.out).2.2.1, (node_cells HG3.out).2.2.2, blk_cell HX3.out 0, blk_cell HX3.out 1⟩
        have HOD := Aside0.mk (HO3.out.below (below_drew (Below.refl _ w3)))
        have HrlD := Aside0.mk (Hrl3.out.below (below_drew (Below.refl _ w3)))
        have HrrD := Aside0.mk (Hrr3.out.below (below_drew (Below.refl _ w3)))
        have HBD := Aside0.mk (HB3.out.trans ((below_drew (Below.refl _ w3)).mono HB3.out.size))
        by_cases hc2 : ht rl ≤ ht rr
        · have HEV := Aside0.mk (show evenT l k v (.node rl rk rv rr) = .node (.node l k v rl) rk rv rr from by unfold evenT; rw [if_neg HC0.out, if_pos HC1.out]; simp [hc2])
          go_wp2_with fail
          refine wp_region_held_drew (S := (fun w' => w'.cell? ⟨gr, 0, none⟩ = some (.int .u64 rk) ∧ w'.cell? ⟨gr, 1, none⟩ = some (.int .i64 rv) ∧ w'.cell? ⟨gr, 2, none⟩ = some (.pointer prl) ∧ w'.cell? ⟨gr, 3, none⟩ = some (.pointer prr) ∧ w'.cell? ⟨w.heap.size, 0, none⟩ = some (.int .u64 k) ∧ w'.cell? ⟨w.heap.size, 1, none⟩ = some (.int .i64 v))) (by kernel_rfl) ?hSb0 (fun hHeld => ?_)
          case hSb0 => first | assumption | go_keep
          refine held_take 0 (some 90) (v := ?vb0) rfl rfl (by kernel_rfl) (by kernel_rfl) (by kernel_rfl) (fun _ _ _ h => h) (by rfl) ?yb0 (by assumption) ?_
          case yb0 => ((intro w hSw); (try dsimp only at hSw); go_simp <;> (with_reducible rfl))
          try simp only [Act.put, List.setIfInBounds_toArray, List.set_cons_zero, List.set_cons_succ]
          refine held_take 1 (some 91) (v := ?vb1) rfl rfl (by kernel_rfl) (by kernel_rfl) (by kernel_rfl) (fun _ _ _ h => h) (by rfl) ?yb1 (by assumption) ?_
          case yb1 => ((intro w hSw); (try dsimp only at hSw); go_simp <;> (with_reducible rfl))
          try simp only [Act.put, List.setIfInBounds_toArray, List.set_cons_zero, List.set_cons_succ]
          refine held_take 2 (some 92) (v := ?vb2) rfl rfl (by kernel_rfl) (by kernel_rfl) (by kernel_rfl) (fun _ _ _ h => h) (by rfl) ?yb2 (by assumption) ?_
          case yb2 => ((intro w hSw); (try dsimp only at hSw); go_simp <;> (with_reducible rfl))
          try simp only [Act.put, List.setIfInBounds_toArray, List.set_cons_zero, List.set_cons_succ]
          refine held_take 3 (some 93) (v := ?vb3) rfl rfl (by kernel_rfl) (by kernel_rfl) (by kernel_rfl) (fun _ _ _ h => h) (by rfl) ?yb3 (by assumption) ?_
          case yb3 => ((intro w hSw); (try dsimp only at hSw); go_simp <;> (with_reducible rfl))
          try simp only [Act.put, List.setIfInBounds_toArray, List.set_cons_zero, List.set_cons_succ]
          refine held_take 4 (some 94) (v := ?vb4) rfl rfl (by kernel_rfl) (by kernel_rfl) (by kernel_rfl) (fun _ _ _ h => h) (by rfl) ?yb4 (by assumption) ?_
          case yb4 => ((intro w hSw); (try dsimp only at hSw); go_simp <;> (with_reducible rfl))
          try simp only [Act.put, List.setIfInBounds_toArray, List.set_cons_zero, List.set_cons_succ]
          refine held_take 5 (some 95) (v := ?vb5) rfl rfl (by kernel_rfl) (by kernel_rfl) (by kernel_rfl) (fun _ _ _ h => h) (by rfl) ?yb5 (by assumption) ?_
          case yb5 => ((intro w hSw); (try dsimp only at hSw); go_simp <;> (with_reducible rfl))
          try simp only [Act.put, List.setIfInBounds_toArray, List.set_cons_zero, List.set_cons_succ]
          refine held_take 7 (some 97) (v := ?vb7) rfl rfl (by kernel_rfl) (by kernel_rfl) (by kernel_rfl) (fun _ _ _ h => h) (by rfl) ?yb7 (by assumption) ?_
          case yb7 => ((intro w hSw); (try dsimp only at hSw); go_simp <;> (with_reducible rfl))
          try simp only [Act.put, List.setIfInBounds_toArray, List.set_cons_zero, List.set_cons_succ]
          refine held_take 8 (some 98) (v := ?vb8) rfl rfl (by kernel_rfl) (by kernel_rfl) (by kernel_rfl) (fun _ _ _ h => h) (by rfl) ?yb8 (by assumption) ?_
          case yb8 => ((intro w hSw); (try dsimp only at hSw); go_simp <;> (with_reducible rfl))
          try simp only [Act.put, List.setIfInBounds_toArray, List.set_cons_zero, List.set_cons_succ]
          refine held_take 9 (some 99) (v := ?vb9) rfl rfl (by kernel_rfl) (by kernel_rfl) (by kernel_rfl) (fun _ _ _ h => h) (by rfl) ?yb9 (by assumption) ?_
          case yb9 => ((intro w hSw); (try dsimp only at hSw); go_simp <;> (with_reducible rfl))
          try simp only [Act.put, List.setIfInBounds_toArray, List.set_cons_zero, List.set_cons_succ]
          refine held_take 10 (some 100) (v := ?vb10) rfl rfl (by kernel_rfl) (by kernel_rfl) (by kernel_rfl) (fun _ _ _ h => h) (by rfl) ?yb10 (by assumption) ?_
          case yb10 => ((intro w hSw); (try dsimp only at hSw); go_simp <;> (with_reducible rfl))
          try simp only [Act.put, List.setIfInBounds_toArray, List.set_cons_zero, List.set_cons_succ]
          refine held_take 11 (some 101) (v := ?vb11) rfl rfl (by kernel_rfl) (by kernel_rfl) (by kernel_rfl) (fun _ _ _ h => h) (by rfl) ?yb11 (by assumption) ?_
          case yb11 => ((intro w hSw); (try dsimp only at hSw); go_simp <;> (with_reducible rfl))
          try simp only [Act.put, List.setIfInBounds_toArray, List.set_cons_zero, List.set_cons_succ]
          refine held_take 12 (some 102) (v := ?vb12) rfl rfl (by kernel_rfl) (by kernel_rfl) (by kernel_rfl) (fun _ _ _ h => h) (by rfl) ?yb12 (by assumption) ?_
          case yb12 => ((intro w hSw); (try dsimp only at hSw); go_simp <;> (with_reducible rfl))
          try simp only [Act.put, List.setIfInBounds_toArray, List.set_cons_zero, List.set_cons_succ]
          refine held_take 13 (some 103) (v := ?vb13) rfl rfl (by kernel_rfl) (by kernel_rfl) (by kernel_rfl) (fun _ _ _ h => h) (by rfl) ?yb13 (by assumption) ?_
          case yb13 => ((intro w hSw); (try dsimp only at hSw); go_simp <;> (with_reducible rfl))
          try simp only [Act.put, List.setIfInBounds_toArray, List.set_cons_zero, List.set_cons_succ]
          refine held_take 14 (some 104) (v := ?vb14) rfl rfl (by kernel_rfl) (by kernel_rfl) (by kernel_rfl) (fun _ _ _ h => h) (by rfl) ?yb14 (by assumption) ?_
          case yb14 => ((intro w hSw); (try dsimp only at hSw); go_simp <;> (with_reducible rfl))
          try simp only [Act.put, List.setIfInBounds_toArray, List.set_cons_zero, List.set_cons_succ]
          refine wpAnyH_ready (rs := [6]) (by kernel_rfl) (by simp) ?_
          refine AllReadyH.cons rfl (fun K hK => ?_) AllReadyH.nil
          go_simp
          refine (made_any pl l k v prl rl _ HOD.out HrlD.out (by have := HSZ.out; omega)).mono ?_
          rintro e w4 ⟨⟨p4, rfl, ht4⟩, hb4⟩
          have K4 := cells6_below (by assumption) hb4
          have HT4 := Aside0.mk ht4
          have HA4 := Aside0.mk (HrrD.out.below hb4)
          have HB4 := Aside0.mk (HBD.out.trans (hb4.mono HBD.out.size))
          clear ht4 hb4
          refine hK.out _ _ ?hSb7 (fun hHeld => ?_)
          case hSb7 => first | assumption | go_keep
          clear hK K
          try simp only [Act.put, List.setIfInBounds_toArray, List.set_cons_zero, List.set_cons_succ]
          refine wpAnyH_ready (rs := [15]) (by kernel_rfl) (by simp) ?_
          refine AllReadyH.cons rfl (fun K hK => ?_) AllReadyH.nil
          go_simp
          refine (made_any p4 (.node l k v rl) rk rv prr rr _ HT4.out HA4.out (by have := HSZ.out; simp only [sz]; omega)).mono ?_
          rintro e w5 ⟨⟨p5, rfl, ht5⟩, hb5⟩
          have K5 := cells6_below (by assumption) hb5
          have HT5 := Aside0.mk ht5
          have HB5 := Aside0.mk (HB4.out.trans (hb5.mono HB4.out.size))
          clear ht5 hb5
          refine hK.out _ _ ?hSb16 (fun hHeld => ?_)
          case hSb16 => first | assumption | go_keep
          clear hK K
          try simp only [Act.put, List.setIfInBounds_toArray, List.set_cons_zero, List.set_cons_succ]
          refine held_take 16 (some 6) (v := ?vb16) rfl rfl (by kernel_rfl) (by kernel_rfl) (by kernel_rfl) (fun _ _ _ h => h) (by rfl) ?yb16 (by assumption) ?_
          case yb16 => ((intro w hSw); (try dsimp only at hSw); go_simp <;> (with_reducible rfl))
          try simp only [Act.put, List.setIfInBounds_toArray, List.set_cons_zero, List.set_cons_succ]
          refine wpAnyH_done (by kernel_rfl) ?_ _
          go_wp2
          go_ret
          exact ⟨⟨_, rfl, by rw [HEV.out]; exact HT5.out⟩, HB5.out⟩
        · cases rl with
          | leaf => simp [ht] at hc2
          | node m1 mk mv m2 =>
            obtain ⟨gm, pm1, pm2, rfl, hgm, hm1, hm2⟩ := HrlD.out
            have HM1 := Aside0.mk hm1
            have HM2 := Aside0.mk hm2
            have HOTH := Aside0.mk HrrD.out
            have HSZ2 := Aside0.mk (show sz l + ((1 + sz m1 + sz m2) + sz rr + 1) ≤ 50000 from by have := HSZ.out; simp only [sz] at this; omega)
            have HEV := Aside0.mk (show evenT l k v (.node (.node m1 mk mv m2) rk rv rr) = .node (.node l k v m1) mk mv (.node m2 rk rv rr) from by unfold evenT; rw [if_neg HC0.out, if_pos HC1.out]; dsimp only; rw [if_neg (by omega)])
            have m0 : w3.cell? ⟨gm, 0, none⟩ = some (.int .u64 mk) ∧ w3.cell? ⟨gm, 1, none⟩ = some (.int .i64 mv) ∧ w3.cell? ⟨gm, 2, none⟩ = some (.pointer pm1) ∧ w3.cell? ⟨gm, 3, none⟩ = some (.pointer pm2) := node_cells (show w3.heap[gm]? = _ from hgm)
            obtain ⟨q0, q1, q2, q3, q4, q5⟩ := hN
            obtain ⟨m0, m1', m2', m3'⟩ := m0
            have hN := And.intro q0 (And.intro q1 (And.intro q2 (And.intro q3 (And.intro m0 (And.intro m1' (And.intro m2' (And.intro m3' (And.intro q4 q5))))))))
            clear hm1 hm2 hgm m0 m1' m2' m3' q0 q1 q4 q5
            go_wp2_with fail
            refine wp_region_held_drew (S := (fun w' => w'.cell? ⟨gr, 0, none⟩ = some (.int .u64 rk) ∧ w'.cell? ⟨gr, 1, none⟩ = some (.int .i64 rv) ∧ w'.cell? ⟨gr, 2, none⟩ = some (.pointer (some ⟨gm, 0, none⟩)) ∧ w'.cell? ⟨gr, 3, none⟩ = some (.pointer prr) ∧ w'.cell? ⟨gm, 0, none⟩ = some (.int .u64 mk) ∧ w'.cell? ⟨gm, 1, none⟩ = some (.int .i64 mv) ∧ w'.cell? ⟨gm, 2, none⟩ = some (.pointer pm1) ∧ w'.cell? ⟨gm, 3, none⟩ = some (.pointer pm2) ∧ w'.cell? ⟨w.heap.size, 0, none⟩ = some (.int .u64 k) ∧ w'.cell? ⟨w.heap.size, 1, none⟩ = some (.int .i64 v))) (by kernel_rfl) ?hSd0 (fun hHeld => ?_)
            case hSd0 => first | assumption | go_keep
            refine held_take 0 (some 110) (v := ?vd0) rfl rfl (by kernel_rfl) (by kernel_rfl) (by kernel_rfl) (fun _ _ _ h => h) (by rfl) ?yd0 (by assumption) ?_
            case yd0 => ((intro w hSw); (try dsimp only at hSw); go_simp <;> (with_reducible rfl))
            try simp only [Act.put, List.setIfInBounds_toArray, List.set_cons_zero, List.set_cons_succ]
            refine held_take 1 (some 111) (v := ?vd1) rfl rfl (by kernel_rfl) (by kernel_rfl) (by kernel_rfl) (fun _ _ _ h => h) (by rfl) ?yd1 (by assumption) ?_
            case yd1 => ((intro w hSw); (try dsimp only at hSw); go_simp <;> (with_reducible rfl))
            try simp only [Act.put, List.setIfInBounds_toArray, List.set_cons_zero, List.set_cons_succ]
            refine held_take 2 (some 112) (v := ?vd2) rfl rfl (by kernel_rfl) (by kernel_rfl) (by kernel_rfl) (fun _ _ _ h => h) (by rfl) ?yd2 (by assumption) ?_
            case yd2 => ((intro w hSw); (try dsimp only at hSw); go_simp <;> (with_reducible rfl))
            try simp only [Act.put, List.setIfInBounds_toArray, List.set_cons_zero, List.set_cons_succ]
            refine held_take 3 (some 113) (v := ?vd3) rfl rfl (by kernel_rfl) (by kernel_rfl) (by kernel_rfl) (fun _ _ _ h => h) (by rfl) ?yd3 (by assumption) ?_
            case yd3 => ((intro w hSw); (try dsimp only at hSw); go_simp <;> (with_reducible rfl))
            try simp only [Act.put, List.setIfInBounds_toArray, List.set_cons_zero, List.set_cons_succ]
            refine held_take 4 (some 114) (v := ?vd4) rfl rfl (by kernel_rfl) (by kernel_rfl) (by kernel_rfl) (fun _ _ _ h => h) (by rfl) ?yd4 (by assumption) ?_
            case yd4 => ((intro w hSw); (try dsimp only at hSw); go_simp <;> (with_reducible rfl))
            try simp only [Act.put, List.setIfInBounds_toArray, List.set_cons_zero, List.set_cons_succ]
            refine held_take 5 (some 115) (v := ?vd5) rfl rfl (by kernel_rfl) (by kernel_rfl) (by kernel_rfl) (fun _ _ _ h => h) (by rfl) ?yd5 (by assumption) ?_
            case yd5 => ((intro w hSw); (try dsimp only at hSw); go_simp <;> (with_reducible rfl))
            try simp only [Act.put, List.setIfInBounds_toArray, List.set_cons_zero, List.set_cons_succ]
            refine held_take 7 (some 117) (v := ?vd7) rfl rfl (by kernel_rfl) (by kernel_rfl) (by kernel_rfl) (fun _ _ _ h => h) (by rfl) ?yd7 (by assumption) ?_
            case yd7 => ((intro w hSw); (try dsimp only at hSw); go_simp <;> (with_reducible rfl))
            try simp only [Act.put, List.setIfInBounds_toArray, List.set_cons_zero, List.set_cons_succ]
            refine held_take 8 (some 118) (v := ?vd8) rfl rfl (by kernel_rfl) (by kernel_rfl) (by kernel_rfl) (fun _ _ _ h => h) (by rfl) ?yd8 (by assumption) ?_
            case yd8 => ((intro w hSw); (try dsimp only at hSw); go_simp <;> (with_reducible rfl))
            try simp only [Act.put, List.setIfInBounds_toArray, List.set_cons_zero, List.set_cons_succ]
            refine held_take 9 (some 119) (v := ?vd9) rfl rfl (by kernel_rfl) (by kernel_rfl) (by kernel_rfl) (fun _ _ _ h => h) (by rfl) ?yd9 (by assumption) ?_
            case yd9 => ((intro w hSw); (try dsimp only at hSw); go_simp <;> (with_reducible rfl))
            try simp only [Act.put, List.setIfInBounds_toArray, List.set_cons_zero, List.set_cons_succ]
            refine held_take 10 (some 120) (v := ?vd10) rfl rfl (by kernel_rfl) (by kernel_rfl) (by kernel_rfl) (fun _ _ _ h => h) (by rfl) ?yd10 (by assumption) ?_
            case yd10 => ((intro w hSw); (try dsimp only at hSw); go_simp <;> (with_reducible rfl))
            try simp only [Act.put, List.setIfInBounds_toArray, List.set_cons_zero, List.set_cons_succ]
            refine held_take 11 (some 121) (v := ?vd11) rfl rfl (by kernel_rfl) (by kernel_rfl) (by kernel_rfl) (fun _ _ _ h => h) (by rfl) ?yd11 (by assumption) ?_
            case yd11 => ((intro w hSw); (try dsimp only at hSw); go_simp <;> (with_reducible rfl))
            try simp only [Act.put, List.setIfInBounds_toArray, List.set_cons_zero, List.set_cons_succ]
            refine held_take 12 (some 122) (v := ?vd12) rfl rfl (by kernel_rfl) (by kernel_rfl) (by kernel_rfl) (fun _ _ _ h => h) (by rfl) ?yd12 (by assumption) ?_
            case yd12 => ((intro w hSw); (try dsimp only at hSw); go_simp <;> (with_reducible rfl))
            try simp only [Act.put, List.setIfInBounds_toArray, List.set_cons_zero, List.set_cons_succ]
            refine held_take 13 (some 123) (v := ?vd13) rfl rfl (by kernel_rfl) (by kernel_rfl) (by kernel_rfl) (fun _ _ _ h => h) (by rfl) ?yd13 (by assumption) ?_
            case yd13 => ((intro w hSw); (try dsimp only at hSw); go_simp <;> (with_reducible rfl))
            try simp only [Act.put, List.setIfInBounds_toArray, List.set_cons_zero, List.set_cons_succ]
            refine held_take 14 (some 124) (v := ?vd14) rfl rfl (by kernel_rfl) (by kernel_rfl) (by kernel_rfl) (fun _ _ _ h => h) (by rfl) ?yd14 (by assumption) ?_
            case yd14 => ((intro w hSw); (try dsimp only at hSw); go_simp <;> (with_reducible rfl))
            try simp only [Act.put, List.setIfInBounds_toArray, List.set_cons_zero, List.set_cons_succ]
            refine held_take 15 (some 125) (v := ?vd15) rfl rfl (by kernel_rfl) (by kernel_rfl) (by kernel_rfl) (fun _ _ _ h => h) (by rfl) ?yd15 (by assumption) ?_
            case yd15 => ((intro w hSw); (try dsimp only at hSw); go_simp <;> (with_reducible rfl))
            try simp only [Act.put, List.setIfInBounds_toArray, List.set_cons_zero, List.set_cons_succ]
            refine held_take 16 (some 126) (v := ?vd16) rfl rfl (by kernel_rfl) (by kernel_rfl) (by kernel_rfl) (fun _ _ _ h => h) (by rfl) ?yd16 (by assumption) ?_
            case yd16 => ((intro w hSw); (try dsimp only at hSw); go_simp <;> (with_reducible rfl))
            try simp only [Act.put, List.setIfInBounds_toArray, List.set_cons_zero, List.set_cons_succ]
            refine held_take 17 (some 127) (v := ?vd17) rfl rfl (by kernel_rfl) (by kernel_rfl) (by kernel_rfl) (fun _ _ _ h => h) (by rfl) ?yd17 (by assumption) ?_
            case yd17 => ((intro w hSw); (try dsimp only at hSw); go_simp <;> (with_reducible rfl))
            try simp only [Act.put, List.setIfInBounds_toArray, List.set_cons_zero, List.set_cons_succ]
            refine held_take 18 (some 128) (v := ?vd18) rfl rfl (by kernel_rfl) (by kernel_rfl) (by kernel_rfl) (fun _ _ _ h => h) (by rfl) ?yd18 (by assumption) ?_
            case yd18 => ((intro w hSw); (try dsimp only at hSw); go_simp <;> (with_reducible rfl))
            try simp only [Act.put, List.setIfInBounds_toArray, List.set_cons_zero, List.set_cons_succ]
            refine held_take 19 (some 129) (v := ?vd19) rfl rfl (by kernel_rfl) (by kernel_rfl) (by kernel_rfl) (fun _ _ _ h => h) (by rfl) ?yd19 (by assumption) ?_
            case yd19 => ((intro w hSw); (try dsimp only at hSw); go_simp <;> (with_reducible rfl))
            try simp only [Act.put, List.setIfInBounds_toArray, List.set_cons_zero, List.set_cons_succ]
            refine held_take 20 (some 130) (v := ?vd20) rfl rfl (by kernel_rfl) (by kernel_rfl) (by kernel_rfl) (fun _ _ _ h => h) (by rfl) ?yd20 (by assumption) ?_
            case yd20 => ((intro w hSw); (try dsimp only at hSw); go_simp <;> (with_reducible rfl))
            try simp only [Act.put, List.setIfInBounds_toArray, List.set_cons_zero, List.set_cons_succ]
            refine held_take 21 (some 131) (v := ?vd21) rfl rfl (by kernel_rfl) (by kernel_rfl) (by kernel_rfl) (fun _ _ _ h => h) (by rfl) ?yd21 (by assumption) ?_
            case yd21 => ((intro w hSw); (try dsimp only at hSw); go_simp <;> (with_reducible rfl))
            try simp only [Act.put, List.setIfInBounds_toArray, List.set_cons_zero, List.set_cons_succ]
            refine held_take 22 (some 132) (v := ?vd22) rfl rfl (by kernel_rfl) (by kernel_rfl) (by kernel_rfl) (fun _ _ _ h => h) (by rfl) ?yd22 (by assumption) ?_
            case yd22 => ((intro w hSw); (try dsimp only at hSw); go_simp <;> (with_reducible rfl))
            try simp only [Act.put, List.setIfInBounds_toArray, List.set_cons_zero, List.set_cons_succ]
            refine wpAnyH_ready (rs := [6]) (by kernel_rfl) (by simp) ?_
            refine AllReadyH.cons rfl (fun K hK => ?_) AllReadyH.nil
            go_simp
            refine (made_any pl l k v pm1 m1 _ HOD.out HM1.out (by have := HSZ2.out; (try simp only [sz]); omega)).mono ?_
            rintro e w4 ⟨⟨p4, rfl, ht4⟩, hb4⟩
            have K4 := cells10_below (by assumption) hb4
            have HT4 := Aside0.mk ht4
            have HM24 := Aside0.mk (HM2.out.below hb4)
            have HO4 := Aside0.mk (HOTH.out.below hb4)
            have HB4 := Aside0.mk (HBD.out.trans (hb4.mono HBD.out.size))
            clear ht4 hb4
            refine hK.out _ _ ?hSd7 (fun hHeld => ?_)
            case hSd7 => first | assumption | go_keep
            clear hK K
            try simp only [Act.put, List.setIfInBounds_toArray, List.set_cons_zero, List.set_cons_succ]
            refine wpAnyH_ready (rs := [23]) (by kernel_rfl) (by simp) ?_
            refine AllReadyH.cons rfl (fun K hK => ?_) AllReadyH.nil
            go_simp
            refine (made_any pm2 m2 rk rv prr rr _ HM24.out HO4.out (by have := HSZ2.out; (try simp only [sz]); omega)).mono ?_
            rintro e w5 ⟨⟨p5, rfl, ht5⟩, hb5⟩
            have K5 := cells10_below (by assumption) hb5
            have HT5 := Aside0.mk ht5
            have HT45 := Aside0.mk (HT4.out.below hb5)
            have HB5 := Aside0.mk (HB4.out.trans (hb5.mono HB4.out.size))
            clear ht5 hb5
            refine hK.out _ _ ?hSd24 (fun hHeld => ?_)
            case hSd24 => first | assumption | go_keep
            clear hK K
            try simp only [Act.put, List.setIfInBounds_toArray, List.set_cons_zero, List.set_cons_succ]
            refine wpAnyH_ready (rs := [24]) (by kernel_rfl) (by simp) ?_
            refine AllReadyH.cons rfl (fun K hK => ?_) AllReadyH.nil
            go_simp
            refine (made_any p4 (.node l k v m1) mk mv p5 (.node m2 rk rv rr) _ HT45.out HT5.out (by have := HSZ2.out; (try simp only [sz]); omega)).mono ?_
            rintro e w6 ⟨⟨p6, rfl, ht6⟩, hb6⟩
            have K6 := cells10_below (by assumption) hb6
            have HT6 := Aside0.mk ht6
            have HB6 := Aside0.mk (HB5.out.trans (hb6.mono HB5.out.size))
            clear ht6 hb6
            refine hK.out _ _ ?hSd25 (fun hHeld => ?_)
            case hSd25 => first | assumption | go_keep
            clear hK K
            try simp only [Act.put, List.setIfInBounds_toArray, List.set_cons_zero, List.set_cons_succ]
            refine held_take 25 (some 6) (v := ?vd25) rfl rfl (by kernel_rfl) (by kernel_rfl) (by kernel_rfl) (fun _ _ _ h => h) (by rfl) ?yd25 (by assumption) ?_
            case yd25 => ((intro w hSw); (try dsimp only at hSw); go_simp <;> (with_reducible rfl))
            try simp only [Act.put, List.setIfInBounds_toArray, List.set_cons_zero, List.set_cons_succ]
            refine wpAnyH_done (by kernel_rfl) ?_ _
            go_wp2
            go_ret
            exact ⟨⟨_, rfl, by rw [HEV.out]; exact HT6.out⟩, HB6.out⟩
    · have HEV := Aside0.mk (show evenT l k v r = .node l k v r from by unfold evenT; rw [if_neg HC0.out, if_neg (by omega)])
      have c0 := blk_cell HX0.out 0
      have c1 := blk_cell HX0.out 1
      have hm := made_any pl l k v pr r w2 HL.out HR.out (by omega)
      go_wp2_with fail
      refine hm.mono ?_
      rintro e w3 ⟨⟨p3, rfl, ht3⟩, hb3⟩
      have HT3 := Aside0.mk ht3
      have HB3 := Aside0.mk (HB0.out.trans (hb3.mono HB0.out.size))
      clear hm ht3 hb3 c0 c1
      go_wp2_with fail
      go_ret
      exact ⟨⟨_, rfl, by rw [HEV.out]; exact HT3.out⟩, HB3.out⟩
end Go.Proofs.Ytbiccahkniadfaa.H
