/- Methods of no table: walked. -/
import Derived.Test.YtjfbiabgeickjaaAtmZ
namespace Go.Proofs.Ytjfbiabgeickjaa.H
open Go.RowKit Go.Proofs.Ytjfbiabgeickjaa.P Go.Proofs.YtjfbiabgeickjaaW.PrintWords Go.Proofs.YtjfbiabgeickjaaW.PrintLast Go.Proofs.YtjfbiabgeickjaaW.PrintMore
set_option linter.unusedVariables false
set_option linter.unusedSimpArgs false
theorem own_nil (w : World) : Calls Try.prog 28 #[.pointer none] w fun e w' => (∃ g pb pr, e = .returned (.pointer (some ⟨g, 0, none⟩)) ∧ w'.heap[g]? = some (.cells #[.pointer pb, .pointer pr, .int .i64 0] 63 (0, 0)) ∧ RootAt w' pb newTab.b ∧ RootAt w' pr .leaf) ∧ Below w.heap.size w w' := own_any none newTab w (.inr ⟨rfl, rfl⟩)
theorem len_nil (w : World) : Calls Try.prog 11 #[.pointer none] w fun e w' => e = .returned (.int .i64 1) ∧ Below w.heap.size w w' := by
  go_enter Try.func11, Try.ntmps11
  go_wp2_with fail
  refine (own_nil w).mono ?_
  rintro e w1 ⟨⟨g, pb, pr, rfl, hg, hrb, hrr⟩, hb⟩
  have HB := Aside0.mk hb
  have x0 := blk_cell hg 0
  have hl := len_any pb newTab.b w1 hrb
  rw [show sz newTab.b = 1 from rfl] at hl
  clear hb hg hrb hrr
  go_wp2_with fail
  refine hl.mono ?_
  rintro e w2 ⟨rfl, rfl⟩
  clear hl
  go_wp2_with fail
  go_ret
  exact ⟨rfl, HB.out⟩
theorem of_nil (a : Int) (h0 : 0 ≤ a) (h1 : a ≤ 4294967295) (w : World) : Calls Try.prog 17 #[.pointer none, .int .u32 a] w fun e w' => e = .returned (.int .i64 0) ∧ Below w.heap.size w w' := by
  have hp : placeT (a + 1) newTab.b = 1 := by
    rw [inv_new.of a h0 h1]
    have e : keysT newTab.b = [0] := rfl
    rw [e]
    show ofA a [⟨0, 4294967295⟩] + 1 = 1
    unfold ofA
    rw [if_neg (by show ¬ (4294967295 : Int) < a; omega)]
  have hwa := wrapE h0 (by omega)
  have hwb := wrapE (f := a + 1) (by omega) (by omega)
  go_enter Try.func17, Try.ntmps17
  go_wp2_with fail
  refine (own_nil w).mono ?_
  rintro e w1 ⟨⟨g, pb, pr, rfl, hg, hrb, hrr⟩, hb⟩
  have HB := Aside0.mk hb
  have hpl := place_any _ newTab (a + 1) w1 ⟨g, pb, pr, rfl, hg, hrb, hrr⟩ (by decide)
  rw [hp] at hpl
  clear hb hg hrb hrr hp
  go_wp2_with fail
  refine hpl.mono ?_
  rintro e w2 ⟨rfl, hb⟩
  have HB2 := Aside0.mk (HB.out.trans (hb.mono HB.out.size))
  clear hpl hb
  go_wp2_with fail
  go_ret
  exact ⟨rfl, HB2.out⟩
set_option maxRecDepth 20000 in
set_option maxHeartbeats 2000000 in
theorem count_nil (f t : Int) (w : World) : Calls Try.prog 13 #[.pointer none, .agg #[.int .u32 f, .int .u32 t]] w fun e w' => e = .returned (.int .i64 0) ∧ Below w.heap.size w w' := by
  have hu := Try.underlying30
  have hb0 : Below w.heap.size w (w.alloc (.cells #[.int .u32 f, .int .u32 t] 30)) := (Below.refl w.heap.size w).alloc (Nat.le_refl _) _
  have HY := Aside0.mk (blk_new w (.cells #[.int .u32 f, .int .u32 t] 30))
  have HB0 := Aside0.mk hb0
  have HKK := Aside0.mk (fun W => atoms_key.calls f t (keyF f t) W rfl)
  have HG := Aside0.mk (fun pr W (hW : RootAt W pr .leaf) => get_any pr (keyF f t) .leaf W hW)
  rw [show getT (keyF f t) .leaf = none from rfl] at HG
  generalize keyF f t = kk at *
  clear hb0
  go_enter Try.func13, Try.ntmps13
  go_wp2_with fail
  generalize (w.alloc (.cells #[.int .u32 f, .int .u32 t] 30)) = w0 at *
  have hc : w0.cell? ⟨w.heap.size, 0, none⟩ = some (.int .u32 f) ∧ w0.cell? ⟨w.heap.size, 1, none⟩ = some (.int .u32 t) := ⟨blk_cell HY.out 0, blk_cell HY.out 1⟩
  have HBD := Aside0.mk (below_drew (Below.refl w0.heap.size w0))
  refine wp_region_held_drew (S := (fun w' => w'.cell? ⟨w.heap.size, 0, none⟩ = some (.int .u32 f) ∧ w'.cell? ⟨w.heap.size, 1, none⟩ = some (.int .u32 t))) (by kernel_rfl) ?hS0 (fun hHeld => ?_)
  case hS0 => (first | assumption | go_keep)
  refine held_take 0 (some 8) (v := ?v0) rfl rfl (by kernel_rfl) (by kernel_rfl) (by kernel_rfl) (fun _ _ _ h => h) (by rfl) ?y0 (by assumption) ?_
  case y0 => ((intro w hSw); (try dsimp only at hSw); go_simp <;> (with_reducible rfl))
  try simp only [Act.put, List.setIfInBounds_toArray, List.set_cons_zero, List.set_cons_succ]
  refine held_take 5 (some 13) (v := ?v5) rfl rfl (by kernel_rfl) (by kernel_rfl) (by kernel_rfl) (fun _ _ _ h => h) (by rfl) ?y5 (by assumption) ?_
  case y5 => ((intro w hSw); (try dsimp only at hSw); go_simp <;> (with_reducible rfl))
  try simp only [Act.put, List.setIfInBounds_toArray, List.set_cons_zero, List.set_cons_succ]
  refine wpAnyH_ready (rs := [1]) (by kernel_rfl) (by simp) ?_
  refine AllReadyH.cons rfl (fun K hK => ?_) AllReadyH.nil
  go_simp
  (go_at_call 28; refine (own_nil _).mono ?_; rintro e w1 ⟨⟨g, pb, pr, rfl, hg, hrb, hrr⟩, hb⟩; have Bw1 := Aside0.mk (HBD.out.trans (hb.mono HBD.out.size)); have HYw1 := Aside0.mk (blk_below HY.out Bw1.out); have HGw1 := Aside0.mk hg; have HRw1 := Aside0.mk hrr; have x1 := blk_cell hg 1; have Kw1 : w1.cell? ⟨w.heap.size, 0, none⟩ = some (.int .u32 f) ∧ w1.cell? ⟨w.heap.size, 1, none⟩ = some (.int .u32 t) := ⟨blk_cell HYw1.out 0, blk_cell HYw1.out 1⟩; clear hb hg hrb hrr)
  refine hK.out _ _ ?hS2 (fun hHeld => ?_)
  case hS2 => (first | assumption | go_keep)
  clear hK K
  try simp only [Act.put, List.setIfInBounds_toArray, List.set_cons_zero, List.set_cons_succ]
  refine held_take 2 (some 10) (v := ?v2) rfl rfl (by kernel_rfl) (by kernel_rfl) (by kernel_rfl) (fun _ _ _ h => h) (by rfl) ?y2 (by assumption) ?_
  case y2 => ((intro w hSw); (try dsimp only at hSw); go_simp <;> (with_reducible rfl))
  try simp only [Act.put, List.setIfInBounds_toArray, List.set_cons_zero, List.set_cons_succ]
  refine held_take 3 (some 11) (v := ?v3) rfl rfl (by kernel_rfl) (by kernel_rfl) (by kernel_rfl) (fun _ _ _ h => h) (by rfl) ?y3 (by assumption) ?_
  case y3 => ((intro w hSw); (try dsimp only at hSw); go_simp <;> (with_reducible rfl))
  try simp only [Act.put, List.setIfInBounds_toArray, List.set_cons_zero, List.set_cons_succ]
  refine wpAnyH_ready (rs := [4, 6]) (by kernel_rfl) (by simp) ?_
  refine AllReadyH.cons rfl (fun K hK => ?_) (AllReadyH.cons rfl (fun K hK => ?_) AllReadyH.nil)
  · go_simp
    refine hK.out _ _ ?hSw1_5 (fun hHeld => ?_)
    case hSw1_5 => (first | assumption | go_keep)
    clear hK K
    try simp only [Act.put, List.setIfInBounds_toArray, List.set_cons_zero, List.set_cons_succ]
    refine wpAnyH_ready (rs := [6]) (by kernel_rfl) (by simp) ?_
    refine AllReadyH.cons rfl (fun K hK => ?_) AllReadyH.nil
    go_simp
    (go_at_call 33; refine (HKK.out _).mono ?_; rintro e w2 ⟨rfl, hb⟩; have Bw2 := Aside0.mk (Bw1.out.trans (hb.mono Bw1.out.size)); have HYw2 := Aside0.mk (blk_below HYw1.out hb); have HRw2 := Aside0.mk (HRw1.out.below hb); have x2 := blk_cell (blk_below HGw1.out hb) 1; have Kw2 : w2.cell? ⟨w.heap.size, 0, none⟩ = some (.int .u32 f) ∧ w2.cell? ⟨w.heap.size, 1, none⟩ = some (.int .u32 t) := ⟨blk_cell HYw2.out 0, blk_cell HYw2.out 1⟩; clear hb)
    refine hK.out _ _ ?hSw1_7 (fun hHeld => ?_)
    case hSw1_7 => (first | assumption | go_keep)
    clear hK K
    try simp only [Act.put, List.setIfInBounds_toArray, List.set_cons_zero, List.set_cons_succ]
    refine wpAnyH_ready (rs := [7]) (by kernel_rfl) (by simp) ?_
    refine AllReadyH.cons rfl (fun K hK => ?_) AllReadyH.nil
    go_simp
    (go_at_call 32; refine (HG.out pr _ HRw2.out).mono ?_; rintro e w3 ⟨rfl, rfl⟩)
    refine hK.out _ _ ?hSw1_8 (fun hHeld => ?_)
    case hSw1_8 => (first | assumption | go_keep)
    clear hK K
    try simp only [Act.put, List.setIfInBounds_toArray, List.set_cons_zero, List.set_cons_succ]
    refine held_take 8 (some 7) (v := ?vw1_8) rfl rfl (by kernel_rfl) (by kernel_rfl) (by kernel_rfl) (fun _ _ _ h => h) (by rfl) ?yw1_8 (by assumption) ?_
    case yw1_8 => ((intro w hSw); (try dsimp only at hSw); go_simp <;> (with_reducible rfl))
    try simp only [Act.put, List.setIfInBounds_toArray, List.set_cons_zero, List.set_cons_succ]
    refine held_take 9 (some 16) (v := ?vw1_9) rfl rfl (by kernel_rfl) (by kernel_rfl) (by kernel_rfl) (fun _ _ _ h => h) (by rfl) ?yw1_9 (by assumption) ?_
    case yw1_9 => ((intro w hSw); (try dsimp only at hSw); go_simp <;> (with_reducible rfl))
    try simp only [Act.put, List.setIfInBounds_toArray, List.set_cons_zero, List.set_cons_succ]
    refine held_take 10 (some 17) (v := ?vw1_10) rfl rfl (by kernel_rfl) (by kernel_rfl) (by kernel_rfl) (fun _ _ _ h => h) (by rfl) ?yw1_10 (by assumption) ?_
    case yw1_10 => ((intro w hSw); (try dsimp only at hSw); go_simp <;> (with_reducible rfl))
    try simp only [Act.put, List.setIfInBounds_toArray, List.set_cons_zero, List.set_cons_succ]
    refine held_take 11 (some 5) (v := ?vw1_11) rfl rfl (by kernel_rfl) (by kernel_rfl) (by kernel_rfl) (fun _ _ _ h => h) (by rfl) ?yw1_11 (by assumption) ?_
    case yw1_11 => ((intro w hSw); (try dsimp only at hSw); go_simp <;> (with_reducible rfl))
    try simp only [Act.put, List.setIfInBounds_toArray, List.set_cons_zero, List.set_cons_succ]
    refine held_take 12 (some 6) (v := ?vw1_12) rfl rfl (by kernel_rfl) (by kernel_rfl) (by kernel_rfl) (fun _ _ _ h => h) (by rfl) ?yw1_12 (by assumption) ?_
    case yw1_12 => ((intro w hSw); (try dsimp only at hSw); go_simp <;> (with_reducible rfl))
    try simp only [Act.put, List.setIfInBounds_toArray, List.set_cons_zero, List.set_cons_succ]
    refine wpAnyH_done (by kernel_rfl) ?_ _
    go_wp2_with fail
    go_ret
    exact ⟨rfl, HB0.out.trans (Bw2.out.mono HB0.out.size)⟩
  · go_simp
    (go_at_call 33; refine (HKK.out _).mono ?_; rintro e w2 ⟨rfl, hb⟩; have Bw2 := Aside0.mk (Bw1.out.trans (hb.mono Bw1.out.size)); have HYw2 := Aside0.mk (blk_below HYw1.out hb); have HRw2 := Aside0.mk (HRw1.out.below hb); have x2 := blk_cell (blk_below HGw1.out hb) 1; have Kw2 : w2.cell? ⟨w.heap.size, 0, none⟩ = some (.int .u32 f) ∧ w2.cell? ⟨w.heap.size, 1, none⟩ = some (.int .u32 t) := ⟨blk_cell HYw2.out 0, blk_cell HYw2.out 1⟩; clear hb)
    refine hK.out _ _ ?hSw2_7 (fun hHeld => ?_)
    case hSw2_7 => (first | assumption | go_keep)
    clear hK K
    try simp only [Act.put, List.setIfInBounds_toArray, List.set_cons_zero, List.set_cons_succ]
    refine wpAnyH_ready (rs := [4]) (by kernel_rfl) (by simp) ?_
    refine AllReadyH.cons rfl (fun K hK => ?_) AllReadyH.nil
    go_simp
    refine hK.out _ _ ?hSw2_5 (fun hHeld => ?_)
    case hSw2_5 => (first | assumption | go_keep)
    clear hK K
    try simp only [Act.put, List.setIfInBounds_toArray, List.set_cons_zero, List.set_cons_succ]
    refine wpAnyH_ready (rs := [7]) (by kernel_rfl) (by simp) ?_
    refine AllReadyH.cons rfl (fun K hK => ?_) AllReadyH.nil
    go_simp
    (go_at_call 32; refine (HG.out pr _ HRw2.out).mono ?_; rintro e w3 ⟨rfl, rfl⟩)
    refine hK.out _ _ ?hSw2_8 (fun hHeld => ?_)
    case hSw2_8 => (first | assumption | go_keep)
    clear hK K
    try simp only [Act.put, List.setIfInBounds_toArray, List.set_cons_zero, List.set_cons_succ]
    refine held_take 8 (some 7) (v := ?vw2_8) rfl rfl (by kernel_rfl) (by kernel_rfl) (by kernel_rfl) (fun _ _ _ h => h) (by rfl) ?yw2_8 (by assumption) ?_
    case yw2_8 => ((intro w hSw); (try dsimp only at hSw); go_simp <;> (with_reducible rfl))
    try simp only [Act.put, List.setIfInBounds_toArray, List.set_cons_zero, List.set_cons_succ]
    refine held_take 9 (some 16) (v := ?vw2_9) rfl rfl (by kernel_rfl) (by kernel_rfl) (by kernel_rfl) (fun _ _ _ h => h) (by rfl) ?yw2_9 (by assumption) ?_
    case yw2_9 => ((intro w hSw); (try dsimp only at hSw); go_simp <;> (with_reducible rfl))
    try simp only [Act.put, List.setIfInBounds_toArray, List.set_cons_zero, List.set_cons_succ]
    refine held_take 10 (some 17) (v := ?vw2_10) rfl rfl (by kernel_rfl) (by kernel_rfl) (by kernel_rfl) (fun _ _ _ h => h) (by rfl) ?yw2_10 (by assumption) ?_
    case yw2_10 => ((intro w hSw); (try dsimp only at hSw); go_simp <;> (with_reducible rfl))
    try simp only [Act.put, List.setIfInBounds_toArray, List.set_cons_zero, List.set_cons_succ]
    refine held_take 11 (some 5) (v := ?vw2_11) rfl rfl (by kernel_rfl) (by kernel_rfl) (by kernel_rfl) (fun _ _ _ h => h) (by rfl) ?yw2_11 (by assumption) ?_
    case yw2_11 => ((intro w hSw); (try dsimp only at hSw); go_simp <;> (with_reducible rfl))
    try simp only [Act.put, List.setIfInBounds_toArray, List.set_cons_zero, List.set_cons_succ]
    refine held_take 12 (some 6) (v := ?vw2_12) rfl rfl (by kernel_rfl) (by kernel_rfl) (by kernel_rfl) (fun _ _ _ h => h) (by rfl) ?yw2_12 (by assumption) ?_
    case yw2_12 => ((intro w hSw); (try dsimp only at hSw); go_simp <;> (with_reducible rfl))
    try simp only [Act.put, List.setIfInBounds_toArray, List.set_cons_zero, List.set_cons_succ]
    refine wpAnyH_done (by kernel_rfl) ?_ _
    go_wp2_with fail
    go_ret
    exact ⟨rfl, HB0.out.trans (Bw2.out.mono HB0.out.size)⟩
set_option maxRecDepth 20000 in
set_option maxHeartbeats 2000000 in
theorem within_nil (f t : Int) (h0 : 0 ≤ f) (h1 : f ≤ 4294967295) (h2 : 0 ≤ t) (h3 : t ≤ 4294967295) (w : World) : Calls Try.prog 19 #[.pointer none, .agg #[.int .u32 f, .int .u32 t]] w fun e w' => e = .returned (.tuple #[.int .i64 0, .int .i64 0, .bool false]) ∧ Below w.heap.size w w' := by
  have hu := Try.underlying30
  have hb0 : Below w.heap.size w (w.alloc (.cells #[.int .u32 f, .int .u32 t] 30)) := (Below.refl w.heap.size w).alloc (Nat.le_refl _) _
  have HY := Aside0.mk (blk_new w (.cells #[.int .u32 f, .int .u32 t] 30))
  have HB0 := Aside0.mk hb0
  have HN := Aside0.mk (inv_new.num f t h0 h1 h2 h3)
  rw [show cntL f t [] = 0 from rfl] at HN
  clear hb0 h0 h1 h2 h3
  go_enter Try.func19, Try.ntmps19
  go_wp2_with fail
  generalize (w.alloc (.cells #[.int .u32 f, .int .u32 t] 30)) = w0 at *
  refine (own_nil w0).mono ?_
  rintro e w1 ⟨⟨g, pb, pr, rfl, hg, hrb, hrr⟩, hb⟩
  have HB1 := Aside0.mk (HB0.out.trans (hb.mono HB0.out.size))
  have HY1 := Aside0.mk (blk_below HY.out hb)
  have hcn := count_any _ newTab f t w1 ⟨g, pb, pr, rfl, hg, hrb, hrr⟩
  rw [HN.out] at hcn
  have y0 := blk_cell HY1.out 0
  have y1 := blk_cell HY1.out 1
  clear hb hg hrb hrr
  go_wp2_with fail
  refine hcn.mono ?_
  rintro e w2 ⟨rfl, hb⟩
  have HB2 := Aside0.mk (HB1.out.trans (hb.mono HB1.out.size))
  clear hcn hb y0 y1
  go_wp2_with fail
  go_ret3
  exact ⟨rfl, HB2.out⟩
set_option maxRecDepth 20000 in
set_option maxHeartbeats 2000000 in
theorem drop_nil (f t : Int) (h0 : 0 ≤ f) (h1 : f ≤ 4294967295) (h2 : 0 ≤ t) (h3 : t ≤ 4294967295) (w : World) : Calls Try.prog 25 #[.pointer none, .agg #[.int .u32 f, .int .u32 t]] w fun e w' => e = .returned (.tuple #[.pointer none, .int .i64 51]) ∧ Below w.heap.size w w' := by
  have hu := Try.underlying30
  have hb0 : Below w.heap.size w (w.alloc (.cells #[.int .u32 f, .int .u32 t] 30)) := (Below.refl w.heap.size w).alloc (Nat.le_refl _) _
  have HY := Aside0.mk (blk_new w (.cells #[.int .u32 f, .int .u32 t] 30))
  have HB0 := Aside0.mk hb0
  have HN := Aside0.mk (inv_new.num f t h0 h1 h2 h3)
  rw [show cntL f t [] = 0 from rfl] at HN
  clear hb0 h0 h1 h2 h3
  go_enter Try.func25, Try.ntmps25
  go_wp2_with fail
  generalize (w.alloc (.cells #[.int .u32 f, .int .u32 t] 30)) = w0 at *
  refine (own_nil w0).mono ?_
  rintro e w1 ⟨⟨g, pb, pr, rfl, hg, hrb, hrr⟩, hb⟩
  have HB1 := Aside0.mk (HB0.out.trans (hb.mono HB0.out.size))
  have HY1 := Aside0.mk (blk_below HY.out hb)
  have hcn := count_any _ newTab f t w1 ⟨g, pb, pr, rfl, hg, hrb, hrr⟩
  rw [HN.out] at hcn
  have y0 := blk_cell HY1.out 0
  have y1 := blk_cell HY1.out 1
  clear hb hg hrb hrr
  go_wp2_with fail
  refine hcn.mono ?_
  rintro e w2 ⟨rfl, hb⟩
  have HB2 := Aside0.mk (HB1.out.trans (hb.mono HB1.out.size))
  clear hcn hb y0 y1
  go_wp2_with fail
  go_ret2
  exact ⟨rfl, HB2.out⟩
set_option maxRecDepth 20000 in
set_option maxHeartbeats 2000000 in
theorem add_nil (w : World) : Calls Try.prog 10 #[.pointer none, .agg #[.int .u32 5, .int .u32 9]] w fun e w' => (∃ P, e = .returned (.tuple #[.pointer P, .int .i64 0]) ∧ TabAtm w' P x1) ∧ Below w.heap.size w w' := by
  have hu := Try.underlying30
  have hb0 : Below w.heap.size w (w.alloc (.cells #[.int .u32 5, .int .u32 9] 30)) := (Below.refl w.heap.size w).alloc (Nat.le_refl _) _
  have HY := Aside0.mk (blk_new w (.cells #[.int .u32 5, .int .u32 9] 30))
  have HB0 := Aside0.mk hb0
  have HOK := Aside0.mk (inv_new.add (by omega) 5 9 (by omega) (by omega) (by omega))
  clear hb0
  go_enter Try.func10, Try.ntmps10
  go_wp2_with fail
  generalize (w.alloc (.cells #[.int .u32 5, .int .u32 9] 30)) = w0 at *
  refine (own_nil w0).mono ?_
  rintro e w1 ⟨⟨g, pb, pr, rfl, hg, hrb, hrr⟩, hb⟩
  have HB1 := Aside0.mk (HB0.out.trans (hb.mono HB0.out.size))
  have HY1 := Aside0.mk (blk_below HY.out hb)
  have hw := with_tab _ newTab 5 9 1 w1 ⟨g, pb, pr, rfl, hg, hrb, hrr⟩ HOK.out.1 HOK.out.2.1 (by decide) (by decide) (by decide) (by decide)
  have y0 := blk_cell HY1.out 0
  have y1 := blk_cell HY1.out 1
  have x2 := blk_cell hg 2
  clear hb hg hrb hrr HOK
  go_wp2_with fail
  refine hw.mono ?_
  rintro e w2 ⟨⟨P2, rfl, hp⟩, hb⟩
  have HP := Aside0.mk hp
  have HB2 := Aside0.mk (HB1.out.trans (hb.mono HB1.out.size))
  clear hw hp hb y0 y1 x2
  go_wp2_with fail
  go_ret2
  exact ⟨⟨_, rfl, HP.out⟩, HB2.out⟩
end Go.Proofs.Ytjfbiabgeickjaa.H
