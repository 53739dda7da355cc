/- Topo2. -/
import Derived.Test.YtkjighagiecbaaaGTopo1
import Derived.Deep.DeepCutAuto
namespace Go.Proofs.Ytkjighagiecbaaa.H
open Go.RowKit Go.Proofs.Ytkjighagiecbaaa.P Go.Proofs.YtkjighagiecbaaaW.PrintWords Go.Proofs.YtkjighagiecbaaaW.PrintLast Go.Proofs.YtkjighagiecbaaaW.PrintMore
set_option linter.unusedVariables false
set_option linter.unusedSimpArgs false
theorem zeroP (w : World) : (zeroValue 33).run Try.prog w = .ok (encP z33) w := by kernel_rfl
theorem look_enc (L : List (S33 × S33)) (p : S33) : ((look L p).map encP).getD (encP z33) = encP ((look L p).getD z33) := by cases look L p <;> rfl
def nextQ (l : List S66) (p : S33) : S33 := (look (joinL l) p).getD z33
def nextB (l : List S66) (p : S33) : Bool := (look (joinL l) p).isSome
def NextS (b0 b1 : Nat) (A0 : Option Addr) (n0 c0 : Nat) (A1 : Option Addr) (n1 c1 : Nat) (p : S33) (w' : World) : Prop :=
  w'.cell? ⟨b0, 0, none⟩ = some (.slice A0 n0 c0) ∧ w'.cell? ⟨b0, 1, none⟩ = some (.slice A1 n1 c1) ∧ w'.cell? ⟨b1, 0, none⟩ = some (.int .i64 p.f0) ∧ w'.cell? ⟨b1, 1, none⟩ = some (.int .i64 p.f1)
theorem cells4_below {w w' : World} {a0 a1 a2 a3 : Addr} {v0 v1 v2 v3 : Value} (h : w.cell? a0 = some v0 ∧ w.cell? a1 = some v1 ∧ w.cell? a2 = some v2 ∧ w.cell? a3 = some v3) (hb : Below w.heap.size w w') :
    w'.cell? a0 = some v0 ∧ w'.cell? a1 = some v1 ∧ w'.cell? a2 = some v2 ∧ w'.cell? a3 = some v3 :=
  ⟨pw_cell_below hb h.1, pw_cell_below hb h.2.1, pw_cell_below hb h.2.2.1, pw_cell_below hb h.2.2.2⟩
theorem far2 {w : World} {g h i : Nat} {v u u' : Value} (hne : ¬ g = h) (hc : w.cell? ⟨g, i, none⟩ = some v) : ((w.setCell ⟨h, 0, none⟩ u).setCell ⟨h, 1, none⟩ u').cell? ⟨g, i, none⟩ = some v := by
  rw [World.cell?_of_block (w := w.setCell ⟨h, 0, none⟩ u) (Below.heap_setCell _ _ _ _ hne), World.cell?_of_block (w := w) (Below.heap_setCell _ _ _ _ hne)]
  exact hc
theorem look_all (g : Nat) (L : List (S33 × S33)) (p q : S33) (b : Bool) (hq : (look L p).getD z33 = q) (hb : (look L p).isSome = b) : ∀ W : World, MapAt W g encP encP L → (Instr.lookup 76 (.map (some g)) (.agg #[.int .i64 p.f0, .int .i64 p.f1]) true).run Try.prog W = .ok (.tuple #[.agg #[.int .i64 q.f0, .int .i64 q.f1], .bool b]) W := fun W h => by
  have hlk := run_look (encV := encP) keyP Try.underlying76 (zeroP W) h p true
  rw [look_enc, hq, hb] at hlk
  exact hlk
def NextAt (r B : Nat) (w : World) (x y : Int) (k : Nat) (w' : World) : Prop :=
  w'.heap[k]? = some (.cells #[.int .i64 x, .int .i64 y] 33 (0, 0)) ∧ w'.heap[r]? = some (.cells #[.int .i64 0, .int .i64 0] 33 (0, 0)) ∧ Below B w w'
theorem next_fin1 {w W w2 : World} {r : Nat} (hsz : w.heap.size ≤ W.heap.size) (hb : Below w.heap.size w W) (h4 : W.heap[r]? = some (.cells #[.int .i64 0, .int .i64 0] 33 (0, 0))) (hl : r < W.heap.size) (hb2 : Below W.drew.heap.size W.drew w2) (x y : Int) :
    NextAt r w.heap.size w x y w2.heap.size (w2.alloc (.cells #[.int .i64 x, .int .i64 y] 33)) := by
  have e : w2.heap[r]? = some (.cells #[.int .i64 0, .int .i64 0] 33 (0, 0)) := (hb2.block r hl).trans h4
  have hb3 : Below w.heap.size w w2 := (below_drew hb).trans (hb2.mono hsz)
  exact ⟨blk_new _ _, (Below.heap_alloc w2 _ r (blk_lt e)).trans e, hb3.alloc hb3.size _⟩
theorem next_fin2 {w W w2 : World} {r : Nat} (hsz : w.heap.size ≤ W.heap.size) (hb : Below w.heap.size w W) (h4 : W.heap[r]? = some (.cells #[.int .i64 0, .int .i64 0] 33 (0, 0))) (hl : r < W.heap.size) (hb2 : Below (W.alloc (.cells #[.int .i64 0, .int .i64 0] 33)).drew.heap.size (W.alloc (.cells #[.int .i64 0, .int .i64 0] 33)).drew w2) (x y : Int) :
    NextAt r w.heap.size w x y W.heap.size ((w2.setCell ⟨W.heap.size, 0, none⟩ (.int .i64 x)).setCell ⟨W.heap.size, 1, none⟩ (.int .i64 y)) := by
  have hsz2 : (W.alloc (.cells #[.int .i64 0, .int .i64 0] 33)).drew.heap.size = W.heap.size + 1 := by simp
  have e : w2.heap[r]? = some (.cells #[.int .i64 0, .int .i64 0] 33 (0, 0)) := (hb2.block r (by omega)).trans ((Below.heap_alloc W _ r hl).trans h4)
  have hk : w2.heap[W.heap.size]? = some (.cells #[.int .i64 0, .int .i64 0] 33 (0, 0)) := blk_below (w := (W.alloc (.cells #[.int .i64 0, .int .i64 0] 33)).drew) (blk_new W _) hb2
  have k1 := blk_set (blk_set hk 0 (.int .i64 x)) 1 (.int .i64 y)
  have hb3 : Below w.heap.size w w2 := (below_drew (hb.alloc hsz _)).trans (hb2.mono (by omega))
  refine ⟨k1, ?_, (hb3.setCell hsz _).setCell hsz _⟩
  exact (Below.heap_setCell _ _ _ r (Nat.ne_of_lt hl)).trans ((Below.heap_setCell _ _ _ r (Nat.ne_of_lt hl)).trans e)
set_option maxHeartbeats 1000000 in
theorem next_any (A0 : Option Addr) (c0 : Nat) (l0 : List Int) (A1 : Option Addr) (c1 : Nat) (l1 : List S66) (p : S33) (w : World) (hr1 : Kd.C k66 w A1 l1.length l1) (hc1 : l1.length ≤ c1) :
    Calls Try.prog 25 #[.agg #[.slice A0 l0.length c0, .slice A1 l1.length c1], encP p] w fun e w' => e = .returned (.tuple #[encP (nextQ l1 p), .bool (nextB l1 p)]) ∧ Below w.heap.size w w' := by
  have hq : ∃ q b, nextQ l1 p = q ∧ nextB l1 p = b := ⟨_, _, rfl, rfl⟩
  obtain ⟨q, b, hq, hb⟩ := hq
  have HQ : Aside0 ((Value.agg #[Value.int .i64 ((look (joinL l1) p).getD z33).f0, Value.int .i64 ((look (joinL l1) p).getD z33).f1]) = Value.agg #[Value.int .i64 q.f0, Value.int .i64 q.f1]) := ⟨by rw [← hq]; rfl⟩
  rw [hq, hb]
  have huTop := Try.underlying25
  have hu33 := Try.underlying33
  have HR := Aside0.mk hr1
  have HQ1 := Aside0.mk hq
  have HQ2 := Aside0.mk hb
  clear hr1 hq hb
  simp only [encP]
  go_enter Try.func25, Try.ntmps25
  go_wp2_with fail
  have c00 := blk_cell (blk_new w (.cells #[.slice A0 l0.length c0, .slice A1 l1.length c1] 25)) 0
  have c01 := blk_cell (blk_new w (.cells #[.slice A0 l0.length c0, .slice A1 l1.length c1] 25)) 1
  have hB1 : Below w.heap.size w (((w.alloc (.cells #[.slice A0 l0.length c0, .slice A1 l1.length c1] 25)).alloc (.cells #[.int .i64 p.f0, .int .i64 p.f1] 33)).alloc (.cells #[.int .i64 0, .int .i64 0] 33)) := (((Below.refl _ _).alloc (Nat.le_refl _) _).alloc (by simp) _).alloc (by simp; omega) _
  have h4 : (((w.alloc (.cells #[.slice A0 l0.length c0, .slice A1 l1.length c1] 25)).alloc (.cells #[.int .i64 p.f0, .int .i64 p.f1] 33)).alloc (.cells #[.int .i64 0, .int .i64 0] 33)).heap[w.heap.size + 1 + 1]? = some (.cells #[.int .i64 0, .int .i64 0] 33 (0, 0)) := by
    have h := blk_new ((w.alloc (.cells #[.slice A0 l0.length c0, .slice A1 l1.length c1] 25)).alloc (.cells #[.int .i64 p.f0, .int .i64 p.f1] 33)) (.cells #[.int .i64 0, .int .i64 0] 33)
    simpa using h
  have hN : NextS w.heap.size (w.heap.size + 1) A0 l0.length c0 A1 l1.length c1 p (((w.alloc (.cells #[.slice A0 l0.length c0, .slice A1 l1.length c1] 25)).alloc (.cells #[.int .i64 p.f0, .int .i64 p.f1] 33)).alloc (.cells #[.int .i64 0, .int .i64 0] 33)) := by
    unfold NextS
    refine ⟨?_, ?_, ?_, ?_⟩ <;> simp [go_sem]
  have HR1 := Aside0.mk (Kd.C_below HR.out (hB1.mono (Nat.le_refl _)))
  have hsz : w.heap.size + 1 + 1 + 1 = (((w.alloc (.cells #[.slice A0 l0.length c0, .slice A1 l1.length c1] 25)).alloc (.cells #[.int .i64 p.f0, .int .i64 p.f1] 33)).alloc (.cells #[.int .i64 0, .int .i64 0] 33)).heap.size := by simp
  clear c00 c01
  generalize (((w.alloc (.cells #[.slice A0 l0.length c0, .slice A1 l1.length c1] 25)).alloc (.cells #[.int .i64 p.f0, .int .i64 p.f1] 33)).alloc (.cells #[.int .i64 0, .int .i64 0] 33)) = W at *
  have HLA := Aside0.mk (fun g => look_all g (joinL l1) p q b HQ1.out HQ2.out)
  have HB1 := Aside0.mk hB1
  have H4 := Aside0.mk h4
  have HSZ := Aside0.mk (show w.heap.size ≤ W.heap.size by omega)
  have hne0 : ¬ w.heap.size = W.heap.size := by omega
  have hne1 : ¬ w.heap.size + 1 = W.heap.size := by omega
  have hN' := hN
  unfold NextS at hN'
  clear hB1 h4 hN hsz HR
  have H4L := Aside0.mk (blk_lt H4.out)
  go_cut [6, 7] (fun v u wr => ∃ k : Nat, v = .pointer (some ⟨k, 0, none⟩) ∧ u = .bool b ∧ NextAt (w.heap.size + 1 + 1) w.heap.size w q.f0 q.f1 k wr)
  case first =>
    refine wp_region_held_drew (S := (fun w' => w'.cell? ⟨w.heap.size, 0, none⟩ = some (.slice A0 l0.length c0) ∧ w'.cell? ⟨w.heap.size, 1, none⟩ = some (.slice A1 l1.length c1) ∧ w'.cell? ⟨w.heap.size + 1, 0, none⟩ = some (.int .i64 p.f0) ∧ w'.cell? ⟨w.heap.size + 1, 1, none⟩ = some (.int .i64 p.f1))) (by kernel_rfl) ?hS0 (fun hHeld => ?_)
    case hS0 => first | assumption | go_keep | exact ⟨far2 hne0 K2.1, far2 hne0 K2.2.1, far2 hne1 K2.2.2.1, far2 hne1 K2.2.2.2⟩
    refine held_take 0 (some 9) (v := ?v0) rfl rfl (by kernel_rfl) (by kernel_rfl) (by kernel_rfl) (fun _ _ _ h => h) (by rfl) ?y0 (by assumption) ?_
    case y0 => ((intro w hSw); (try dsimp only at hSw); go_simp <;> (with_reducible rfl))
    try simp only [Act.put, List.setIfInBounds_toArray, List.set_cons_zero, List.set_cons_succ]
    refine held_take 2 (some 11) (v := ?v2) rfl rfl (by kernel_rfl) (by kernel_rfl) (by kernel_rfl) (fun _ _ _ h => h) (by rfl) ?y2 (by assumption) ?_
    case y2 => ((intro w hSw); (try dsimp only at hSw); go_simp <;> (with_reducible rfl))
    try simp only [Act.put, List.setIfInBounds_toArray, List.set_cons_zero, List.set_cons_succ]
    refine wpAnyH_ready (rs := [1, 7]) (by kernel_rfl) (by simp) ?_
    refine AllReadyH.cons rfl (fun K hK => ?_) (AllReadyH.cons rfl (fun K hK => ?_) AllReadyH.nil)
    · go_simp
      refine (joined_any A0 c0 l0 A1 c1 l1 _ (by first | exact Kd.C_alloc HR1.out _ | exact HR1.out) hc1).mono ?_
      rintro e w2 ⟨g, rfl, hm2, hg2, hb2⟩
      have K2 := cells4_below (by assumption) hb2
      have hlk := HLA.out g
      have hm2' := fun o => hm2.alloc o
      have HB2 := Aside0.mk hb2
      try (have hk2 : w2.heap[W.heap.size]? = some (.cells #[.int .i64 0, .int .i64 0] 33 (0, 0)) := blk_below (blk_new W.drew _) hb2; have c60 := blk_cell hk2 0; have c61 := blk_cell hk2 1; have f60 := blk_frozen hk2 0; have f61 := blk_frozen hk2 1)
      refine hK.out _ _ ?hSw1_2 (fun hHeld => ?_)
      case hSw1_2 => first | assumption | go_keep | exact ⟨far2 hne0 K2.1, far2 hne0 K2.2.1, far2 hne1 K2.2.2.1, far2 hne1 K2.2.2.2⟩
      clear hK K
      try simp only [Act.put, List.setIfInBounds_toArray, List.set_cons_zero, List.set_cons_succ]
      refine wpAnyH_ready (rs := [3, 7]) (by kernel_rfl) (by simp) ?_
      refine AllReadyH.cons rfl (fun K hK => ?_) (AllReadyH.cons rfl (fun K hK => ?_) AllReadyH.nil)
      · go_simp
        refine hK.out _ _ ?hSw2_4 (fun hHeld => ?_)
        case hSw2_4 => first | assumption | go_keep | exact ⟨far2 hne0 K2.1, far2 hne0 K2.2.1, far2 hne1 K2.2.2.1, far2 hne1 K2.2.2.2⟩
        clear hK K
        try simp only [Act.put, List.setIfInBounds_toArray, List.set_cons_zero, List.set_cons_succ]
        refine held_take 4 (some 8) (v := ?vw2_4) rfl rfl (by kernel_rfl) (by kernel_rfl) (by kernel_rfl) (fun _ _ _ h => h) (by rfl) ?yw2_4 (by assumption) ?_
        case yw2_4 => ((intro w hSw); (try dsimp only at hSw); go_simp <;> (with_reducible rfl))
        try simp only [Act.put, List.setIfInBounds_toArray, List.set_cons_zero, List.set_cons_succ]
        refine held_take 5 (some 13) (v := ?vw2_5) rfl rfl (by kernel_rfl) (by kernel_rfl) (by kernel_rfl) (fun _ _ _ h => h) (by rfl) ?yw2_5 (by assumption) ?_
        case yw2_5 => ((intro w hSw); (try dsimp only at hSw); go_simp <;> (with_reducible rfl))
        try simp only [Act.put, List.setIfInBounds_toArray, List.set_cons_zero, List.set_cons_succ]
        refine held_take 6 (some 14) (v := ?vw2_6) rfl rfl (by kernel_rfl) (by kernel_rfl) (by kernel_rfl) (fun _ _ _ h => h) (by rfl) ?yw2_6 (by assumption) ?_
        case yw2_6 => ((intro w hSw); (try dsimp only at hSw); go_simp <;> (with_reducible rfl))
        try simp only [Act.put, List.setIfInBounds_toArray, List.set_cons_zero, List.set_cons_succ]
        refine wpAnyH_ready (rs := [7]) (by kernel_rfl) (by simp) ?_
        refine AllReadyH.cons rfl (fun K hK => ?_) AllReadyH.nil
        go_simp
        refine hK.out _ _ ?hSw2_8 (fun hHeld => ?_)
        case hSw2_8 => first | assumption | go_keep | exact ⟨far2 hne0 K2.1, far2 hne0 K2.2.1, far2 hne1 K2.2.2.1, far2 hne1 K2.2.2.2⟩
        clear hK K
        try simp only [Act.put, List.setIfInBounds_toArray, List.set_cons_zero, List.set_cons_succ]
        refine wpAnyH_ready (rs := [8]) (by kernel_rfl) (by simp) ?_
        refine AllReadyH.cons rfl (fun K hK => ?_) AllReadyH.nil
        go_simp
        refine hK.out _ _ ?hSw2_9 (fun hHeld => ?_)
        case hSw2_9 => first | assumption | go_keep | exact ⟨far2 hne0 K2.1, far2 hne0 K2.2.1, far2 hne1 K2.2.2.1, far2 hne1 K2.2.2.2⟩
        clear hK K
        try simp only [Act.put, List.setIfInBounds_toArray, List.set_cons_zero, List.set_cons_succ]
        refine held_take 9 (some 7) (v := ?vw2_9) rfl rfl (by kernel_rfl) (by kernel_rfl) (by kernel_rfl) (fun _ _ _ h => h) (by rfl) ?yw2_9 (by assumption) ?_
        case yw2_9 => ((intro w hSw); (try dsimp only at hSw); go_simp <;> (with_reducible rfl))
        try simp only [Act.put, List.setIfInBounds_toArray, List.set_cons_zero, List.set_cons_succ]
        refine wpAnyH_done (by kernel_rfl) ?_ _
        go_wp2_with fail
        go_meet
        case rel =>
          first
            | exact ⟨_, rfl, rfl, next_fin1 HSZ.out HB1.out H4.out H4L.out HB2.out q.f0 q.f1⟩
            | exact ⟨_, rfl, rfl, next_fin2 HSZ.out HB1.out H4.out H4L.out HB2.out q.f0 q.f1⟩
      · go_simp
        refine hK.out _ _ ?hSw3_8 (fun hHeld => ?_)
        case hSw3_8 => first | assumption | go_keep | exact ⟨far2 hne0 K2.1, far2 hne0 K2.2.1, far2 hne1 K2.2.2.1, far2 hne1 K2.2.2.2⟩
        clear hK K
        try simp only [Act.put, List.setIfInBounds_toArray, List.set_cons_zero, List.set_cons_succ]
        refine wpAnyH_ready (rs := [3]) (by kernel_rfl) (by simp) ?_
        refine AllReadyH.cons rfl (fun K hK => ?_) AllReadyH.nil
        go_simp
        refine hK.out _ _ ?hSw3_4 (fun hHeld => ?_)
        case hSw3_4 => first | assumption | go_keep | exact ⟨far2 hne0 K2.1, far2 hne0 K2.2.1, far2 hne1 K2.2.2.1, far2 hne1 K2.2.2.2⟩
        clear hK K
        try simp only [Act.put, List.setIfInBounds_toArray, List.set_cons_zero, List.set_cons_succ]
        refine held_take 4 (some 8) (v := ?vw3_4) rfl rfl (by kernel_rfl) (by kernel_rfl) (by kernel_rfl) (fun _ _ _ h => h) (by rfl) ?yw3_4 (by assumption) ?_
        case yw3_4 => ((intro w hSw); (try dsimp only at hSw); go_simp <;> (with_reducible rfl))
        try simp only [Act.put, List.setIfInBounds_toArray, List.set_cons_zero, List.set_cons_succ]
        refine held_take 5 (some 13) (v := ?vw3_5) rfl rfl (by kernel_rfl) (by kernel_rfl) (by kernel_rfl) (fun _ _ _ h => h) (by rfl) ?yw3_5 (by assumption) ?_
        case yw3_5 => ((intro w hSw); (try dsimp only at hSw); go_simp <;> (with_reducible rfl))
        try simp only [Act.put, List.setIfInBounds_toArray, List.set_cons_zero, List.set_cons_succ]
        refine held_take 6 (some 14) (v := ?vw3_6) rfl rfl (by kernel_rfl) (by kernel_rfl) (by kernel_rfl) (fun _ _ _ h => h) (by rfl) ?yw3_6 (by assumption) ?_
        case yw3_6 => ((intro w hSw); (try dsimp only at hSw); go_simp <;> (with_reducible rfl))
        try simp only [Act.put, List.setIfInBounds_toArray, List.set_cons_zero, List.set_cons_succ]
        refine wpAnyH_ready (rs := [8]) (by kernel_rfl) (by simp) ?_
        refine AllReadyH.cons rfl (fun K hK => ?_) AllReadyH.nil
        go_simp
        refine hK.out _ _ ?hSw3_9 (fun hHeld => ?_)
        case hSw3_9 => first | assumption | go_keep | exact ⟨far2 hne0 K2.1, far2 hne0 K2.2.1, far2 hne1 K2.2.2.1, far2 hne1 K2.2.2.2⟩
        clear hK K
        try simp only [Act.put, List.setIfInBounds_toArray, List.set_cons_zero, List.set_cons_succ]
        refine held_take 9 (some 7) (v := ?vw3_9) rfl rfl (by kernel_rfl) (by kernel_rfl) (by kernel_rfl) (fun _ _ _ h => h) (by rfl) ?yw3_9 (by assumption) ?_
        case yw3_9 => ((intro w hSw); (try dsimp only at hSw); go_simp <;> (with_reducible rfl))
        try simp only [Act.put, List.setIfInBounds_toArray, List.set_cons_zero, List.set_cons_succ]
        refine wpAnyH_done (by kernel_rfl) ?_ _
        go_wp2_with fail
        go_meet
        case rel =>
          first
            | exact ⟨_, rfl, rfl, next_fin1 HSZ.out HB1.out H4.out H4L.out HB2.out q.f0 q.f1⟩
            | exact ⟨_, rfl, rfl, next_fin2 HSZ.out HB1.out H4.out H4L.out HB2.out q.f0 q.f1⟩
    · go_simp
      refine hK.out _ _ ?hSw4_8 (fun hHeld => ?_)
      case hSw4_8 => first | assumption | go_keep | exact ⟨far2 hne0 K2.1, far2 hne0 K2.2.1, far2 hne1 K2.2.2.1, far2 hne1 K2.2.2.2⟩
      clear hK K
      try simp only [Act.put, List.setIfInBounds_toArray, List.set_cons_zero, List.set_cons_succ]
      refine wpAnyH_ready (rs := [1]) (by kernel_rfl) (by simp) ?_
      refine AllReadyH.cons rfl (fun K hK => ?_) AllReadyH.nil
      go_simp
      refine (joined_any A0 c0 l0 A1 c1 l1 _ (by first | exact Kd.C_alloc HR1.out _ | exact HR1.out) hc1).mono ?_
      rintro e w2 ⟨g, rfl, hm2, hg2, hb2⟩
      have K2 := cells4_below (by assumption) hb2
      have hlk := HLA.out g
      have hm2' := fun o => hm2.alloc o
      have HB2 := Aside0.mk hb2
      try (have hk2 : w2.heap[W.heap.size]? = some (.cells #[.int .i64 0, .int .i64 0] 33 (0, 0)) := blk_below (blk_new W.drew _) hb2; have c60 := blk_cell hk2 0; have c61 := blk_cell hk2 1; have f60 := blk_frozen hk2 0; have f61 := blk_frozen hk2 1)
      refine hK.out _ _ ?hSw4_2 (fun hHeld => ?_)
      case hSw4_2 => first | assumption | go_keep | exact ⟨far2 hne0 K2.1, far2 hne0 K2.2.1, far2 hne1 K2.2.2.1, far2 hne1 K2.2.2.2⟩
      clear hK K
      try simp only [Act.put, List.setIfInBounds_toArray, List.set_cons_zero, List.set_cons_succ]
      refine wpAnyH_ready (rs := [3]) (by kernel_rfl) (by simp) ?_
      refine AllReadyH.cons rfl (fun K hK => ?_) AllReadyH.nil
      go_simp
      refine hK.out _ _ ?hSw4_4 (fun hHeld => ?_)
      case hSw4_4 => first | assumption | go_keep | exact ⟨far2 hne0 K2.1, far2 hne0 K2.2.1, far2 hne1 K2.2.2.1, far2 hne1 K2.2.2.2⟩
      clear hK K
      try simp only [Act.put, List.setIfInBounds_toArray, List.set_cons_zero, List.set_cons_succ]
      refine held_take 4 (some 8) (v := ?vw4_4) rfl rfl (by kernel_rfl) (by kernel_rfl) (by kernel_rfl) (fun _ _ _ h => h) (by rfl) ?yw4_4 (by assumption) ?_
      case yw4_4 => ((intro w hSw); (try dsimp only at hSw); go_simp <;> (with_reducible rfl))
      try simp only [Act.put, List.setIfInBounds_toArray, List.set_cons_zero, List.set_cons_succ]
      refine held_take 5 (some 13) (v := ?vw4_5) rfl rfl (by kernel_rfl) (by kernel_rfl) (by kernel_rfl) (fun _ _ _ h => h) (by rfl) ?yw4_5 (by assumption) ?_
      case yw4_5 => ((intro w hSw); (try dsimp only at hSw); go_simp <;> (with_reducible rfl))
      try simp only [Act.put, List.setIfInBounds_toArray, List.set_cons_zero, List.set_cons_succ]
      refine held_take 6 (some 14) (v := ?vw4_6) rfl rfl (by kernel_rfl) (by kernel_rfl) (by kernel_rfl) (fun _ _ _ h => h) (by rfl) ?yw4_6 (by assumption) ?_
      case yw4_6 => ((intro w hSw); (try dsimp only at hSw); go_simp <;> (with_reducible rfl))
      try simp only [Act.put, List.setIfInBounds_toArray, List.set_cons_zero, List.set_cons_succ]
      refine wpAnyH_ready (rs := [8]) (by kernel_rfl) (by simp) ?_
      refine AllReadyH.cons rfl (fun K hK => ?_) AllReadyH.nil
      go_simp
      refine hK.out _ _ ?hSw4_9 (fun hHeld => ?_)
      case hSw4_9 => first | assumption | go_keep | exact ⟨far2 hne0 K2.1, far2 hne0 K2.2.1, far2 hne1 K2.2.2.1, far2 hne1 K2.2.2.2⟩
      clear hK K
      try simp only [Act.put, List.setIfInBounds_toArray, List.set_cons_zero, List.set_cons_succ]
      refine held_take 9 (some 7) (v := ?vw4_9) rfl rfl (by kernel_rfl) (by kernel_rfl) (by kernel_rfl) (fun _ _ _ h => h) (by rfl) ?yw4_9 (by assumption) ?_
      case yw4_9 => ((intro w hSw); (try dsimp only at hSw); go_simp <;> (with_reducible rfl))
      try simp only [Act.put, List.setIfInBounds_toArray, List.set_cons_zero, List.set_cons_succ]
      refine wpAnyH_done (by kernel_rfl) ?_ _
      go_wp2_with fail
      go_meet
      case rel =>
        first
          | exact ⟨_, rfl, rfl, next_fin1 HSZ.out HB1.out H4.out H4L.out HB2.out q.f0 q.f1⟩
          | exact ⟨_, rfl, rfl, next_fin2 HSZ.out HB1.out H4.out H4L.out HB2.out q.f0 q.f1⟩
  case rest =>
    obtain ⟨k, rfl, rfl, hN1, hN2, hN3⟩ := hcut
    have c60 := blk_cell hN1 0
    have c61 := blk_cell hN1 1
    have f40 := blk_frozen hN2 0
    have f41 := blk_frozen hN2 1
    have c40 := blk_cell hN2 0
    have c41 := blk_cell hN2 1
    go_wp2
    have hB : w.heap.size ≤ w.heap.size + 1 + 1 := by omega
    have k1 := blk_set (blk_set hN2 0 (.int .i64 q.f0)) 1 (.int .i64 q.f1)
    have k2 := blk_cell k1 0
    have k3 := blk_cell k1 1
    have hBW := (hN3.setCell (p := ⟨w.heap.size + 1 + 1, 0, none⟩) hB (.int .i64 q.f0)).setCell (p := ⟨w.heap.size + 1 + 1, 1, none⟩) hB (.int .i64 q.f1)
    generalize (wc.setCell ⟨w.heap.size + 1 + 1, 0, none⟩ (Value.int .i64 q.f0)).setCell ⟨w.heap.size + 1 + 1, 1, none⟩ (Value.int .i64 q.f1) = wd at *
    exact bodyPost_ret (v := .tuple #[.agg #[.int .i64 q.f0, .int .i64 q.f1], .bool b]) (by simp [results, Try.results25, go_sem, k2, k3]) rfl ⟨rfl, hBW⟩
end Go.Proofs.Ytkjighagiecbaaa.H
