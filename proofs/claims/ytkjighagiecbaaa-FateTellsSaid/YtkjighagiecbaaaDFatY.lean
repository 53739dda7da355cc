/- FatX6, FatY. -/
import Derived.Test.YtkjighagiecbaaaDFatX5
/-! ### FatX6 -/
namespace Go.Proofs.Ytkjighagiecbaaa.H
open Go.RowKit Go.Proofs.Ytkjighagiecbaaa.P Go.Proofs.YtkjighagiecbaaaW.PrintWords Go.Proofs.YtkjighagiecbaaaW.PrintLast Go.Proofs.YtkjighagiecbaaaW.PrintMore
set_option linter.unusedVariables false
set_option linter.unusedSimpArgs false
set_option maxRecDepth 20000
section
variable {A0 : Option Addr} {c0 : Nat} {l0 : List Int} {A1 : Option Addr} {c1 : Nat} {l1 : List S66} {A2 : Option Addr} {c2 : Nat} {l2 : List Rul}
set_option maxHeartbeats 4000000 in
theorem traceR_yes (d a : Int) (w : World) (hN : NetAt A0 c0 l0 A1 c1 l1 A2 c2 l2 w) (hT : RightT l0 l1) (hd0 : 0 ≤ d) (hd1 : d < (l0.length : Int)) (R : Trc) (ht : Tr (stepD l1 l2 a) (nxD (nxS l1)) [] d R) (hlen : R.1.length ≤ 1000) :
    Calls Try.prog 16 #[netV A0 c0 l0 A1 c1 l1 A2 c2 l2, .int .i64 d, .int .u32 a] w fun e w' => TraceAt R 0 w.heap.size w e w' := by
  have huN := Try.underlying28
  have huT := Try.underlying25
  have huR := Try.underlying35
  have huP := Try.underlying33
  obtain ⟨i0, hi, hz0, hz1, hz2⟩ := info_parts info3
  have HTR := Aside0.mk ht
  have hm0 := Kd.C_max hN.r0
  have HN := Aside0.mk hN
  have HT := Aside0.mk hT
  have hd2 : decide (d < 0) = false := by simpa using hd0
  have hd3 : decide ((l0.length : Int) ≤ d) = false := by simpa using hd1
  have hn := blk_alloc (blk_new w (.cells #[.slice A0 l0.length c0, .slice A1 l1.length c1, .slice A2 l2.length c2] 28)) (.cells #[.slice none 0 0, .int .i64 0, .int .i64 0, .int .i64 0] 35)
  have n0 := blk_cell hn 0
  have HJ0 := Aside0.mk (show RJ w.heap.size A0 c0 l0 A1 c1 l1 A2 c2 l2 w [] (((w.alloc (.cells #[.slice A0 l0.length c0, .slice A1 l1.length c1, .slice A2 l2.length c2] 28)).alloc (.cells #[.slice none 0 0, .int .i64 0, .int .i64 0, .int .i64 0] 35)).alloc (.cells #[.slice none 0 0, .int .i64 0, .int .i64 0, .int .i64 0] 35)) from by
    refine ⟨⟨.slice none 0 0, ?_, World.ownsRow_nil _ _ _ _⟩, ?_, ?_, (((Below.refl w.heap.size w).alloc (Nat.le_refl _) _).alloc (by simp) _).alloc (by simp; omega) _, by simp⟩ <;> (simp only [ag, World.size_alloc]; repeat (first | rw [if_pos trivial] | rw [if_pos (by omega)] | rw [if_neg (by omega)])))
  clear hN ht hT hn
  go_enter Try.func16, Try.ntmps16
  go_wp2
  generalize (((w.alloc (.cells #[.slice A0 l0.length c0, .slice A1 l1.length c1, .slice A2 l2.length c2] 28)).alloc (.cells #[.slice none 0 0, .int .i64 0, .int .i64 0, .int .i64 0] 35)).alloc (.cells #[.slice none 0 0, .int .i64 0, .int .i64 0, .int .i64 0] 35)) = W0 at *
  clear n0
  simp only [Nat.add_assoc, Nat.reduceAdd]
  go_loopg [9] R.1.length (fun gg s9 wr => ∃ (seen : List Int) (x : Int), s9 = .int .i64 x ∧ Aside0 (RJ w.heap.size A0 c0 l0 A1 c1 l1 A2 c2 l2 w seen wr) ∧ Aside0 (Tr (stepD l1 l2 a) (nxD (nxS l1)) seen x R) ∧ R.1.length - seen.length ≤ gg)
  case atStart => exact ⟨[], d, rfl, HJ0, HTR, by simp⟩
  case round =>
    obtain ⟨seen, x, rfl, hJ, hTs, hg⟩ := hrel
    have hsl : seen.length < 1000 := by
      obtain ⟨rest, e⟩ := hTs.out.chain.1
      have : R.1.length = seen.length + (rest.length + 1) := by rw [e]; simp
      omega
    have HLT := Aside0.mk (show R.1.length - (seen ++ [x]).length < R.1.length - seen.length from by
      obtain ⟨rest, e⟩ := hTs.out.chain.1
      rw [e]
      simp
      omega)
    obtain ⟨⟨v, k1, hrow⟩, k3, k4, k5, k6⟩ := hJ.out
    obtain ⟨Av, cv, rfl, hcv, hCv⟩ := own_C hrow
    have t0 := blk_cell k1 0
    have HCT := Aside0.mk (hasR_any Av cv seen x wr hCv hcv)
    have HK1 := Aside0.mk k1
    have HROW := Aside0.mk hrow
    clear k1 k3 k4 k5 k6 hrow hCv
    by_cases hin : x ∈ seen
    · rw [decide_eq_true hin] at HCT
      have HR2 := Aside0.mk (hTs.out.one (.loop hin))
      clear hin
      go_wp2_with fail
      refine HCT.out.mono ?_
      rintro e w2 ⟨rfl, hb⟩
      have HB := Aside0.mk hb
      have k1' := blk_below HK1.out hb
      have t0 := blk_cell k1' 0
      have HK2 := Aside0.mk k1'
      have HROW2 := Aside0.mk (row_below HROW.out hb)
      have hbig := (hJ.out.below hb).big
      clear hb k1' HK1 HROW HCT
      go_wp2_with (at_builtin; refine wpList_append_own _ rfl (.tmp 33) (.tmp 35) 22 rfl (w.heap.size + 3) 3 i0 (.int .i64 0) 1 8 Try.underlying22 hi hz0 hz1 hz2 rfl (by decide) (.slice Av seen.length cv) seen.length (seen.map (Value.int .i64)) rfl (row_below HROW2.out ((Below.refl _ _).alloc (Nat.le_refl _) _)) ⟨w2.heap.size, 0, none⟩ 1 1 [.int .i64 x] rfl rfl (by intro j u hu; match j, hu with | 0, hu => (simp at hu; subst hu; exact blk_cell (blk_new _ _) 0)) (by simp [Value.oneCell']) (by unfold maxLen; omega) (by omega) (by simp; omega) ?_; intro v' w1 hown' hgrow _; obtain ⟨g', cap', rfl⟩ := ownsRow_succ hown'; obtain ⟨hp1, hp2, hp3, hp4, hp5⟩ := (hJ.out.below HB.out).push HK2.out HROW2.out _ hown' hgrow; have HP1 := Aside0.mk hp1; have HP4 := Aside0.mk hp4; have HP5 := Aside0.mk hp5; have c0' := blk_cell hp2 0; have c1' := blk_cell hp2 1; have c2' := blk_cell hp2 2; have c3' := blk_cell hp2 3; have g0' := blk_frozen hp2 0; have g1' := blk_frozen hp2 1; have g2' := blk_frozen hp2 2; have g3' := blk_frozen hp2 3; have r0' := blk_cell hp3 0; have r1' := blk_cell hp3 1; have r2' := blk_cell hp3 2; have r3' := blk_cell hp3 3; have s0' := blk_frozen hp3 0; have s1' := blk_frozen hp3 1; have s2' := blk_frozen hp3 2; have s3' := blk_frozen hp3 3; clear hp1 hp2 hp3 hp4 hp5 hown' hgrow)
      obtain ⟨W6, hW6, s2, s3, s4⟩ := HP1.out.tell (X := (w1.setCell ⟨w.heap.size + 2, 0, none⟩ (.slice (some ⟨g', 0, none⟩) (seen.length + 1) cap')).setCell ⟨w.heap.size + 2, 1, none⟩ (.int .i64 4)) 4 0 0 HP5.out (fun k hk => Below.heap_setCell _ _ _ k hk) (HP1.out.bel.setCell (p := ⟨w.heap.size + 2, 1, none⟩) (by show w.heap.size ≤ w.heap.size + 2; omega) _)
      rw [hW6]
      have z0 := blk_cell s2 0
      have z1 := blk_cell s2 1
      have z2 := blk_cell s2 2
      have z3 := blk_cell s2 3
      exact bodyPost_ret (v := .tuple #[.agg #[.slice (some ⟨g', 0, none⟩) (seen.length + 1) cap', .int .i64 4, .int .i64 0, .int .i64 0], .int .i64 0]) (by simp [results, Try.results16, go_sem, z0, z1, z2, z3]) rfl ⟨_, by rw [HR2.out], by rw [HR2.out]; exact s3, s4⟩
    · rw [decide_eq_false hin] at HCT
      have HIN := Aside0.mk hin
      have hn := hJ.out.n_
      have HNn := Aside0.mk hn
      clear hin hn
      go_wp2_with fail
      refine HCT.out.mono ?_
      rintro e w2 ⟨rfl, hb⟩
      have HB := Aside0.mk hb
      have k1' := blk_below HK1.out hb
      have t0 := blk_cell k1' 0
      have HK2 := Aside0.mk k1'
      have HROW2 := Aside0.mk (row_below HROW.out hb)
      have hbig := (hJ.out.below hb).big
      clear hb k1' HK1 HROW HCT
      go_wp2_with (at_builtin; refine wpList_append_own _ rfl (.tmp 33) (.tmp 35) 22 rfl (w.heap.size + 3) 3 i0 (.int .i64 0) 1 8 Try.underlying22 hi hz0 hz1 hz2 rfl (by decide) (.slice Av seen.length cv) seen.length (seen.map (Value.int .i64)) rfl (row_below HROW2.out ((Below.refl _ _).alloc (Nat.le_refl _) _)) ⟨w2.heap.size, 0, none⟩ 1 1 [.int .i64 x] rfl rfl (by intro j u hu; match j, hu with | 0, hu => (simp at hu; subst hu; exact blk_cell (blk_new _ _) 0)) (by simp [Value.oneCell']) (by unfold maxLen; omega) (by omega) (by simp; omega) ?_; intro v' w1 hown' hgrow _; obtain ⟨g', cap', rfl⟩ := ownsRow_succ hown'; obtain ⟨hp1, hp2, hp3, hp4, hp5⟩ := (hJ.out.below HB.out).push HK2.out HROW2.out _ hown' hgrow; have HP1 := Aside0.mk hp1; have HP4 := Aside0.mk hp4; have HP5 := Aside0.mk hp5; have hnn := blk_cell hp1.n_ 0; have hnn1 := blk_cell hp1.n_ 1; have hnn2 := blk_cell hp1.n_ 2; have c0' := blk_cell hp2 0; have c1' := blk_cell hp2 1; have c2' := blk_cell hp2 2; have c3' := blk_cell hp2 3; have g0' := blk_frozen hp2 0; have g1' := blk_frozen hp2 1; have g2' := blk_frozen hp2 2; have g3' := blk_frozen hp2 3; have r0' := blk_cell hp3 0; have r1' := blk_cell hp3 1; have r2' := blk_cell hp3 2; have r3' := blk_cell hp3 3; have s0' := blk_frozen hp3 0; have s1' := blk_frozen hp3 1; have s2' := blk_frozen hp3 2; have s3' := blk_frozen hp3 3; clear hp1 hp2 hp3 hp4 hp5 hown' hgrow)
      clear c0' c1' c2' c3' g0' g1' g2' g3' r0' r1' r2' r3' s0' s1' s2' s3' hnn hnn1 hnn2 t0 HROW2 HK2 hbig
      generalize (w1.setCell ⟨w.heap.size + 2, 0, none⟩ (.slice (some ⟨g', 0, none⟩) (seen.length + 1) cap')) = W3 at *
      refine (stepR_any x a W3 (HN.out.below HP1.out.bel) HT.out).mono ?_
      rintro e W4 ⟨rfl, hb4⟩
      obtain ⟨f, px, py, hs⟩ : ∃ f px py, stepD l1 l2 a x = (f, (px, py)) := ⟨_, _, _, rfl⟩
      rw [hs]
      have HS := Aside0.mk hs
      have HLW := Aside0.mk (show w.heap.size + 2 < W4.heap.size from Nat.lt_of_lt_of_le (blk_lt HP4.out) hb4.size)
      have hb5 := hb4.alloc hb4.size (.cells #[.int .i64 px, .int .i64 py] 33)
      have HJ5 := Aside0.mk (HP1.out.below hb5)
      have HB5 := Aside0.mk (HP1.out.bel.trans (hb5.mono (by have := HP1.out.big; omega)))
      have h5 := blk_below HP4.out hb5
      have HT5 := Aside0.mk h5
      have HR5 := Aside0.mk (row_below HP5.out hb5)
      have hnew := blk_new W4 (.cells #[.int .i64 px, .int .i64 py] 33)
      have x0 := blk_cell hnew 0
      have x1 := blk_cell hnew 1
      have hr5 := HJ5.out.r_
      have hn5 := HJ5.out.n_
      clear hs hb4 hb5 hnew
      by_cases hf : f = 4
      · subst hf
        have HGO := Aside0.mk (show Tr (stepD l1 l2 a) (nxD (nxS l1)) (seen ++ [x]) (nxD (nxS l1) (px, py)) R from by
          have h := hTs.out
          have e := HS.out
          cases h with
          | loop h => exact absurd h HIN.out
          | stop _ h => exact absurd (by rw [e]) h
          | go _ _ h => rw [e] at h; exact h)
        have HSM := Aside0.mk (show nextB l1 ⟨px, py⟩ = true from by
          have h := (step_fates matchD denyD l2 (nxS l1) a x).1
          have e := HS.out
          unfold stepD at e
          rw [e, nxS_some] at h
          exact (h rfl).1)
        have n0 := blk_cell hn5 0
        have n1 := blk_cell hn5 1
        have n2 := blk_cell hn5 2
        clear h5 hr5 hn5
        go_wp2_with fail
        refine (nextR_any (A2 := A2) (c2 := c2) (l2 := l2) (px, py) _ (HN.out.below HB5.out) HT.out).mono ?_
        rintro e W6 ⟨rfl, hb6⟩
        have HQ := Aside0.mk (show nxD (nxS l1) (px, py) = (nextQ l1 ⟨px, py⟩).f0 from by
          unfold nxD nxS
          rw [if_pos HSM.out]
          rfl)
        generalize (nextQ l1 ⟨px, py⟩).f0 = q0 at *
        generalize (nextQ l1 ⟨px, py⟩).f1 = q1 at *
        have HJ7 := Aside0.mk (HJ5.out.below (hb6.alloc hb6.size (.cells #[.int .i64 q0, .int .i64 q1] 33)))
        clear hb6 n0 n1 n2 x0 x1
        go_wp2_with fail
        go_roundg (R.1.length - (seen ++ [x]).length)
        case measure => have := HLT.out; omega
        case rel => exact ⟨seen ++ [x], q0, rfl, HJ7, ⟨by rw [← HQ.out]; exact HGO.out⟩, Nat.le_refl _⟩
      · have hne : (f != 4) = true := by simp [hf]
        have HR2 := Aside0.mk (hTs.out.one (.stop HIN.out (by rw [HS.out]; exact hf)))
        have c0' := blk_cell h5 0
        have c1' := blk_cell h5 1
        have c2' := blk_cell h5 2
        have c3' := blk_cell h5 3
        have g0' := blk_frozen h5 0
        have g1' := blk_frozen h5 1
        have g2' := blk_frozen h5 2
        have g3' := blk_frozen h5 3
        have r0' := blk_cell hr5 0
        have r1' := blk_cell hr5 1
        have r2' := blk_cell hr5 2
        have r3' := blk_cell hr5 3
        have s0' := blk_frozen hr5 0
        have s1' := blk_frozen hr5 1
        have s2' := blk_frozen hr5 2
        have s3' := blk_frozen hr5 3
        have hne1 : ¬ W4.heap.size = w.heap.size + 2 := by have := HLW.out; omega
        have hne2 : ¬ w.heap.size + 2 = W4.heap.size := by have := HLW.out; omega
        have HX1 := Aside0.mk ((HJ5.out.bel.setCell (p := ⟨w.heap.size + 2, 1, none⟩) (by show w.heap.size ≤ w.heap.size + 2; omega) (.int .i64 f)).setCell (p := ⟨w.heap.size + 2, 2, none⟩) (by show w.heap.size ≤ w.heap.size + 2; omega) (.int .i64 px) |>.setCell (p := ⟨w.heap.size + 2, 3, none⟩) (by show w.heap.size ≤ w.heap.size + 2; omega) (.int .i64 py))
        clear h5 hr5 hn5 hf
        go_wp2_with fail
        obtain ⟨W6, hW6, s2, s3, s4⟩ := HJ5.out.tell (X := (((W4.alloc (.cells #[.int .i64 px, .int .i64 py] 33)).setCell ⟨w.heap.size + 2, 1, none⟩ (.int .i64 f)).setCell ⟨w.heap.size + 2, 2, none⟩ (.int .i64 px)).setCell ⟨w.heap.size + 2, 3, none⟩ (.int .i64 py)) f px py HR5.out (fun k hk => (Below.heap_setCell _ _ _ k hk).trans ((Below.heap_setCell _ _ _ k hk).trans (Below.heap_setCell _ _ _ k hk))) HX1.out
        rw [hW6]
        have z0 := blk_cell s2 0
        have z1 := blk_cell s2 1
        have z2 := blk_cell s2 2
        have z3 := blk_cell s2 3
        exact bodyPost_ret (v := .tuple #[.agg #[.slice (some ⟨g', 0, none⟩) (seen.length + 1) cap', .int .i64 f, .int .i64 px, .int .i64 py], .int .i64 0]) (by simp [results, Try.results16, go_sem, z0, z1, z2, z3]) rfl ⟨_, by rw [HR2.out, HS.out], by rw [HR2.out]; exact s3, s4⟩
end
end Go.Proofs.Ytkjighagiecbaaa.H
/-! ### FatY -/
namespace Go.Proofs.Ytkjighagiecbaaa.H
open Go.RowKit Go.Proofs.Ytkjighagiecbaaa.P Go.Proofs.YtkjighagiecbaaaW.PrintWords Go.Proofs.YtkjighagiecbaaaW.PrintLast Go.Proofs.YtkjighagiecbaaaW.PrintMore
set_option linter.unusedVariables false
set_option linter.unusedSimpArgs false
theorem rd_at (l : List Int) (j : Nat) (h : j < l.length) : rd l (j : Int) = l[j] := by unfold rd; rw [Int.toNat_natCast, List.getD_eq_getElem?_getD, List.getElem?_eq_getElem h]; rfl
theorem drop_eq_cons {x y : List Int} {j : Nat} (hx : j < x.length) (hy : j < y.length) : decide (x.drop j = y.drop j) = (decide (x[j] = y[j]) && decide (x.drop (j + 1) = y.drop (j + 1))) := by
  rw [List.drop_eq_getElem_cons hx, List.drop_eq_getElem_cons hy, Bool.eq_iff_iff, decide_eq_true_iff, Bool.and_eq_true, decide_eq_true_iff, decide_eq_true_iff, List.cons.injEq]
theorem equalR_l0 (x y : List Int) (hl : x.length = y.length) (h : x.length ≤ 9223372036854775807) (d : Nat) : ∀ j : Nat, j ≤ x.length → x.length - j = d → Ev (fun k => R.slices_Equal_int_int.l0 k x y (x.length : Int) (j : Int)) (decide (x.drop j = y.drop j)) := by
  induction d with
  | zero =>
    intro j hj hd
    obtain rfl : j = x.length := by omega
    refine Ev.step (fun k => by rw [R.slices_Equal_int_int.l0]) ?_
    rw [List.drop_length, hl, List.drop_length]
    simp only [Int.lt_irrefl, if_false, decide_true]
    exact Ev.now _
  | succ d ih =>
    intro j hj hd
    have hlt : j < x.length := by omega
    have ih := ih (j + 1) (by omega) (by omega)
    refine Ev.step (fun k => by rw [R.slices_Equal_int_int.l0]) ?_
    rw [drop_eq_cons hlt (by omega)]
    simp only [show ((j : Int) < (x.length : Int)) from by omega, show (0 : Int) ≤ (j : Int) from by omega, show ((j : Int) < (y.length : Int)) from by omega, if_true, wrap_up hlt h, rd_at x j hlt, rd_at y j (by omega)]
    by_cases c : x[j] = y[j]'(by omega)
    · simp only [if_pos c, decide_eq_true c, Bool.true_and]; exact ih
    · simp only [if_neg c, decide_eq_false c, Bool.false_and]; exact Ev.now _
theorem equalR_ev (x y : List Int) (h : x.length ≤ 9223372036854775807) : Ev (fun k => R.slices_Equal_int_int.f k x y) (decide (x = y)) := by
  unfold R.slices_Equal_int_int.f
  by_cases hl : x.length = y.length
  · simp only [show ((x.length : Int) = (y.length : Int)) from by omega, if_true]
    have := equalR_l0 x y hl h _ 0 (by omega) rfl
    rw [List.drop_zero, List.drop_zero, show ((x.length : Int)) = (y.length : Int) from by omega] at this
    exact this
  · simp only [show ¬ ((x.length : Int) = (y.length : Int)) from by omega, if_false]
    rw [decide_eq_false (fun e => hl (by rw [e]))]
    exact Ev.now _
theorem intsR_l0 (x y : List Int) (hl : x.length = y.length) (h : x.length ≤ 9223372036854775807) (d : Nat) : ∀ j : Nat, j ≤ x.length → x.length - j = d → Ev (fun k => R.waystoneref06_Ints.l0 k x y (j : Int)) (decide (x.drop j = y.drop j)) := by
  induction d with
  | zero =>
    intro j hj hd
    obtain rfl : j = x.length := by omega
    refine Ev.step (fun k => by rw [R.waystoneref06_Ints.l0]) ?_
    rw [List.drop_length, hl, List.drop_length]
    simp only [Int.lt_irrefl, if_false, decide_true]
    first | exact Ev.now _ | (rw [← hl]; simp only [Int.lt_irrefl, if_false]; exact Ev.now _)
  | succ d ih =>
    intro j hj hd
    have hlt : j < x.length := by omega
    have ih := ih (j + 1) (by omega) (by omega)
    refine Ev.step (fun k => by rw [R.waystoneref06_Ints.l0]) ?_
    rw [drop_eq_cons hlt (by omega)]
    simp only [show ((j : Int) < (x.length : Int)) from by omega, show (0 : Int) ≤ (j : Int) from by omega, show ((j : Int) < (y.length : Int)) from by omega, if_true, wrap_up hlt h, rd_at x j hlt, rd_at y j (by omega)]
    by_cases c : x[j] = y[j]'(by omega)
    · simp only [if_pos c, decide_eq_true c, Bool.true_and]; exact ih
    · simp only [if_neg c, decide_eq_false c, Bool.false_and]; exact Ev.now _
theorem intsR_ev (x y : List Int) (h : x.length ≤ 9223372036854775807) : Ev (fun k => R.waystoneref06_Ints.f k x y) (decide (x = y)) := by
  unfold R.waystoneref06_Ints.f
  by_cases hl : x.length = y.length
  · simp only [show ((x.length : Int) = (y.length : Int)) from by omega, if_true]
    have := intsR_l0 x y hl h _ 0 (by omega) rfl
    rw [List.drop_zero, List.drop_zero] at this
    exact this
  · simp only [show ¬ ((x.length : Int) = (y.length : Int)) from by omega, if_false]
    rw [decide_eq_false (fun e => hl (by rw [e]))]
    exact Ev.now _
def sameT (x : List Int) (f a b : Int) (y : List Int) (f' a' b' : Int) : Bool := decide (x = y) && (decide (f = f') && (a == a' && b == b'))
theorem sameP_ev (x : List Int) (f a b : Int) (y : List Int) (f' a' b' : Int) (h : x.length ≤ 9223372036854775807) : Ev (fun k => R.fate_Same.f k x f a b y f' a' b') (sameT x f a b y f' a' b') := by
  unfold R.fate_Same.f sameT
  refine Ev.bind (equalR_ev x y h) ?_
  cases decide (x = y) with
  | false => exact Ev.now _
  | true =>
    by_cases c : f = f'
    · simp only [if_true, if_pos c, decide_eq_true c, Bool.true_and]
      exact Ev.now _
    · simp only [if_true, if_neg c, decide_eq_false c, Bool.false_and, Bool.and_false]
      exact Ev.now _
theorem sameD_ev (x : List Int) (f a b : Int) (y : List Int) (f' a' b' : Int) (h : x.length ≤ 9223372036854775807) : Ev (fun k => R.waystoneref09_Same.f k x f a b y f' a' b') (sameT x f a b y f' a' b') := by
  unfold R.waystoneref09_Same.f sameT
  refine Ev.bind (intsR_ev x y h) ?_
  cases decide (x = y) with
  | false => exact Ev.now _
  | true =>
    by_cases c : f = f'
    · simp only [if_true, if_pos c, decide_eq_true c, Bool.true_and]
      exact Ev.now _
    · simp only [if_true, if_neg c, decide_eq_false c, Bool.false_and, Bool.and_false]
      exact Ev.now _
def rightN (l0 : List Int) (l1 : List S66) (l2 : List Rul) : Bool := rightB l0 l1 && (allB l2 && !l2.any (badR l0))
def idsB (l2 : List Rul) : Bool := l2.all fun r => decide (-9223372036854775808 ≤ r.f0) && decide (r.f0 ≤ 9223372036854775807)
theorem idsB_i64 {l2 : List Rul} (h : idsB l2 = true) : ∀ r ∈ l2, i64 r.f0 := by
  intro r hr
  have := List.all_eq_true.1 h r hr
  simpa [i64] using this
theorem rightQ_ev (l0 : List Int) (l1 : List S66) (l2 : List Rul) (hl : l2.length ≤ 9223372036854775807) : Ev (fun k => Q.fate_Right.f k l0 l1 l2) (rightN l0 l1 l2) := by
  unfold Q.fate_Right.f Q.topo_Right.f Q.topo_Fits.f rightN
  simp only [Option.bind_some]
  cases rightB l0 l1 with
  | false => exact Ev.now _
  | true =>
    simp only [if_true, Bool.true_and]
    refine Ev.bind (allQ_ev l2 hl) ?_
    cases allB l2 with
    | false => exact Ev.now _
    | true => exact Ev.now _
theorem rightR_ev (l0 : List Int) (l1 : List S66) (l2 : List Rul) (h0 : l0.length ≤ 1000) (h1 : l1.length ≤ 1000) (hl : l2.length ≤ 9223372036854775807) (hi : ∀ r ∈ l2, i64 r.f0) : Ev (fun k => R.waystoneref09_Right.f k l0 l1 l2) (rightN l0 l1 l2) := by
  unfold R.waystoneref09_Right.f rightN
  refine Ev.bind (refRight_ev l0 l1 h0 h1) (Ev.bind (allR_ev l2 hl hi) ?_)
  cases rightB l0 l1 with
  | false => exact Ev.now _
  | true =>
    simp only [if_true, Bool.true_and]
    cases allB l2 with
    | false => exact Ev.now _
    | true =>
      simp only [if_true, Bool.true_and]
      exact Ev.bind (refFits_ev l0 l1 l2 hl) (Ev.now _)
theorem rightN_T {l0 : List Int} {l1 : List S66} {l2 : List Rul} (h : rightN l0 l1 l2 = true) : RightT l0 l1 := by
  unfold rightN at h
  rw [Bool.and_eq_true] at h
  exact (right_iff l0 l1).1 h.1
theorem rightN_kinds {l0 : List Int} {l1 : List S66} {l2 : List Rul} (h : rightN l0 l1 l2 = true) : ∀ r ∈ l2, 0 ≤ r.f3 ∧ r.f3 ≤ 3 := by
  unfold rightN allB at h
  simp only [Bool.and_eq_true] at h
  intro r hr
  have := ((all_iff okRule l2 0).1 h.2.1.1).1 r hr
  have h2 := this.1
  unfold okRule inB at h2
  simp only [Bool.and_eq_true, decide_eq_true_iff] at h2
  omega
theorem stepD_P {l0 : List Int} {l1 : List S66} {l2 : List Rul} (h : rightN l0 l1 l2 = true) (a : Int) : stepD l1 l2 a = stepP l1 l2 a := by
  funext d
  exact (step_same (rightN_kinds h) (nxS l1) a d).symm
noncomputable def traceF (l0 : List Int) (l1 : List S66) (l2 : List Rul) (d a : Int) : List Int × Int × Int × Int × Int :=
  if d < 0 ∨ (l0.length : Int) ≤ d then ([], 0, 0, 0, 91) else ((trcP l1 l2 a d).1, (trcP l1 l2 a d).2.1, (trcP l1 l2 a d).2.2.1, (trcP l1 l2 a d).2.2.2, 0)
theorem own_R {W : World} {B : Nat} {v : Value} {l : List Int} (h : W.ownsRow B 3 1 v l.length (l.map (Value.int .i64))) : Kd.R (Kd.int .i64) 3 W B (fun _ => True) v l :=
  Kd.R_of_own (enc := Value.int .i64) (h1 := fun _ => rfl) (ok := fun _ => True) h (fun _ _ => trivial)
section
variable {A0 : Option Addr} {c0 : Nat} {l0 : List Int} {A1 : Option Addr} {c1 : Nat} {l1 : List S66} {A2 : Option Addr} {c2 : Nat} {l2 : List Rul}
theorem trace_told (d a : Int) (w : World) (hN : NetAt A0 c0 l0 A1 c1 l1 A2 c2 l2 w) (hl : l2.length * 48 ≤ 140737488355328) (hl1 : l1.length ≤ 4398046511104) :
    Calls Try.prog 8 #[netV A0 c0 l0 A1 c1 l1 A2 c2 l2, .int .i64 d, .int .u32 a] w fun e w' => ∃ v0_ : Value, e = .returned (.tuple #[.agg #[v0_, .int .i64 (traceF l0 l1 l2 d a).2.1, .int .i64 (traceF l0 l1 l2 d a).2.2.1, .int .i64 (traceF l0 l1 l2 d a).2.2.2.1], .int .i64 (traceF l0 l1 l2 d a).2.2.2.2]) ∧ Kd.R (Kd.int .i64) 3 w' w.heap.size (fun _ => True) v0_ (traceF l0 l1 l2 d a).1 ∧ Below w.heap.size w w' := by
  unfold traceF
  by_cases h : d < 0 ∨ (l0.length : Int) ≤ d
  · rw [if_pos h]
    refine (trace_no d a w hN h).mono ?_
    rintro e w' ⟨v, rfl, h1, h2⟩
    exact ⟨v, rfl, own_R h1, h2⟩
  · rw [if_neg h]
    refine (trace_yes d a w hN (by omega) (by omega) hl hl1).mono ?_
    rintro e w' ⟨v, rfl, h1, h2⟩
    exact ⟨v, rfl, own_R h1, h2⟩
theorem traceR_told (d a : Int) (w : World) (hN : NetAt A0 c0 l0 A1 c1 l1 A2 c2 l2 w) (hR : rightN l0 l1 l2 = true) :
    Calls Try.prog 16 #[netV A0 c0 l0 A1 c1 l1 A2 c2 l2, .int .i64 d, .int .u32 a] w fun e w' => ∃ v0_ : Value, e = .returned (.tuple #[.agg #[v0_, .int .i64 (traceF l0 l1 l2 d a).2.1, .int .i64 (traceF l0 l1 l2 d a).2.2.1, .int .i64 (traceF l0 l1 l2 d a).2.2.2.1], .int .i64 (traceF l0 l1 l2 d a).2.2.2.2]) ∧ Kd.R (Kd.int .i64) 3 w' w.heap.size (fun _ => True) v0_ (traceF l0 l1 l2 d a).1 ∧ Below w.heap.size w w' := by
  unfold traceF
  by_cases h : d < 0 ∨ (l0.length : Int) ≤ d
  · rw [if_pos h]
    refine (traceR_no d a w hN h).mono ?_
    rintro e w' ⟨v, rfl, h1, h2⟩
    exact ⟨v, rfl, own_R h1, h2⟩
  · rw [if_neg h]
    have hT := rightN_T hR
    have ht := trcP_tr l1 l2 a d
    rw [← stepD_P hR] at ht
    have hlen := trcP_len l1 l2 a d
    refine (traceR_yes d a w hN hT (by omega) (by omega) _ ht (by have := hT.l16; omega)).mono ?_
    rintro e w' ⟨v, rfl, h1, h2⟩
    exact ⟨v, rfl, own_R h1, h2⟩
end
def sizesN (l1 : List S66) (l2 : List Rul) : Prop := l2.length * 48 ≤ 140737488355328 ∧ l1.length ≤ 4398046511104
end Go.Proofs.Ytkjighagiecbaaa.H
