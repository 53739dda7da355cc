/- OrderAhead: NEVER BOTH. -/
import Derived.Test.YtncdeappiooccaaOrd8
namespace Go.Proofs.Ytncdeappiooccaa.H
open Go.RowKit Go.Proofs.Ytncdeappiooccaa.P Go.Proofs.YtncdeappiooccaaW.PrintWords Go.Proofs.YtncdeappiooccaaW.PrintLast Go.Proofs.YtncdeappiooccaaW.PrintMore
set_option linter.unusedVariables false
set_option linter.unusedSimpArgs false
theorem look_take (k : S47) : ∀ (h : List S47) (i n : Nat), k ∈ h.take n → ∃ v : Int, look (idxF i h) k = some v ∧ (i : Int) < v ∧ v ≤ i + n
  | [], i, n, hm => by simp at hm
  | x :: t, i, 0, hm => by simp at hm
  | x :: t, i, n + 1, hm => by
    rw [idxF, look]
    by_cases e : k = x
    · rw [if_pos e]
      exact ⟨_, rfl, by omega, by omega⟩
    · rw [if_neg e]
      rw [List.take_succ_cons, List.mem_cons] at hm
      rcases hm with hm | hm
      · exact absurd hm e
      · obtain ⟨v, h1, h2, h3⟩ := look_take k t (i + 1) n hm
        exact ⟨v, h1, by omega, by omega⟩
theorem pos_take (h : List S47) (k : S47) (n : Nat) (hm : k ∈ h.take n) : 0 < posE h k ∧ posE h k ≤ n := by
  obtain ⟨v, h1, h2, h3⟩ := look_take k h 0 n hm
  unfold posE idxL
  rw [h1]
  simp at h2 h3 ⊢
  exact ⟨h2, h3⟩
theorem look_get (k : S47) : ∀ (h : List S47) (i : Nat) (v : Int), look (idxF i h) k = some v → ∃ j : Nat, v = (i : Int) + j + 1 ∧ h[j]? = some k ∧ ¬ k ∈ h.take j
  | [], i, v, hv => by simp [idxF, look] at hv
  | x :: t, i, v, hv => by
    rw [idxF, look] at hv
    by_cases e : k = x
    · rw [if_pos e] at hv
      cases hv
      exact ⟨0, by simp, by rw [e]; rfl, by simp⟩
    · rw [if_neg e] at hv
      obtain ⟨j, h1, h2, h3⟩ := look_get k t (i + 1) v hv
      exact ⟨j + 1, by omega, h2, by simp [e, h3]⟩
theorem pos_get (h : List S47) (k : S47) (hp : 0 < posE h k) : ∃ j : Nat, posE h k = (j : Int) + 1 ∧ h[j]? = some k ∧ ¬ k ∈ h.take j := by
  unfold posE at hp ⊢
  cases hl : look (idxL h) k with
  | none => rw [hl] at hp; simp at hp
  | some v =>
    obtain ⟨j, h1, h2, h3⟩ := look_get k h 0 v hl
    exact ⟨j, by simpa using h1, h2, h3⟩
theorem right_at (h : List S47) (hr : rightH h = true) (j : Nat) (x : S47) (hx : h[j]? = some x) : stepOk (h.take j) x = true := by
  obtain ⟨hj, e⟩ := List.getElem?_eq_some_iff.1 hx
  have h1 := rightH_take h (j + 1) hr
  rw [rightH_step h j hj, e] at h1
  simp at h1
  exact h1.2
theorem before (h : List S47) (hr : rightH h = true) (k : Int) (hk : k = 2 ∨ k = 3) (id : Int) (hp : 0 < posE h ⟨k, id⟩) : 0 < posE h ⟨k - 1, id⟩ ∧ posE h ⟨k - 1, id⟩ < posE h ⟨k, id⟩ := by
  obtain ⟨j, h1, h2, _⟩ := pos_get h _ hp
  have h3 := right_at h hr j _ h2
  have hm : (⟨k - 1, id⟩ : S47) ∈ h.take j := by
    unfold stepOk at h3
    rcases hk with rfl | rfl
    · simp [wrap64] at h3
      exact h3.2
    · simp [wrap64] at h3
      exact h3.2
  have h4 := pos_take h _ j hm
  exact ⟨h4.1, by omega⟩
theorem before3 (h : List S47) (hr : rightH h = true) (id : Int) (hp : 0 < posE h ⟨3, id⟩) : 0 < posE h ⟨1, id⟩ ∧ posE h ⟨1, id⟩ < posE h ⟨3, id⟩ := by
  have h1 : 0 < posE h ⟨2, id⟩ ∧ posE h ⟨2, id⟩ < posE h ⟨3, id⟩ := before h hr 3 (.inr rfl) id hp
  have h2 : 0 < posE h ⟨1, id⟩ ∧ posE h ⟨1, id⟩ < posE h ⟨2, id⟩ := before h hr 2 (.inl rfl) id h1.1
  exact ⟨h2.1, by omega⟩
theorem ahead_iff (h : List S47) (hr : rightH h = true) (a b : Int) : aheadH h a b = true ↔ 0 < posE h ⟨3, a⟩ ∧ posE h ⟨3, a⟩ < posE h ⟨1, b⟩ := by
  simp [aheadH, hr]
theorem ahead_self (h : List S47) (hr : rightH h = true) (a : Int) : aheadH h a a = false := by
  rw [Bool.eq_false_iff]
  intro e
  have := (ahead_iff h hr a a).1 e
  have := before3 h hr a this.1
  omega
theorem ahead_back (h : List S47) (hr : rightH h = true) (a b : Int) (hx : aheadH h a b = true) : aheadH h b a = false := by
  rw [Bool.eq_false_iff]
  intro e
  have h1 := (ahead_iff h hr b a).1 e
  have h2 := (ahead_iff h hr a b).1 hx
  have h3 := before3 h hr a h2.1
  have h4 := before3 h hr b h1.1
  omega
theorem ahead_trans (h : List S47) (hr : rightH h = true) (a b c : Int) (hx : aheadH h a b = true) (hy : aheadH h b c = true) : aheadH h a c = true := by
  have h1 := (ahead_iff h hr b c).1 hy
  have h2 := (ahead_iff h hr a b).1 hx
  have h4 := before3 h hr b h1.1
  exact (ahead_iff h hr a c).2 ⟨h2.1, by omega⟩
theorem ahead_waits (h : List S47) (hr : rightH h = true) (a b : Int) (hx : aheadH h a b = true) : decide (a ∈ pendL h) = false := by
  rw [decide_eq_false_iff_not]
  intro hm
  have h2 := (ahead_iff h hr a b).1 hx
  unfold pendL at hm
  rw [hr, if_pos rfl, List.mem_filter] at hm
  simp [h2.1] at hm
set_option maxHeartbeats 1600000 in
theorem OrderAhead_any (A : Option Addr) (c : Nat) (h : List S47) (a0 a1 a2 : Int) (w : World) (hr : Kd.C k47 w A h.length h) (hc : h.length ≤ c) {I : Prop} (hI : I) :
    Calls Try.prog 5 #[.slice A h.length c, .agg #[.int .i64 a0, .int .i64 a1, .int .i64 a2]] w fun e w' => e = .returned (.bool true) ∧ Below w.heap.size w w' := by
  have hmax := Kd.C_max hr
  have HBX0 := Aside0.mk (blk_new w (.cells #[.int .i64 a0, .int .i64 a1, .int .i64 a2] 43))
  have HBW0 := Aside0.mk ((Below.refl w.heap.size w).alloc (Nat.le_refl _) (.cells #[.int .i64 a0, .int .i64 a1, .int .i64 a2] 43))
  have HR0 := Aside0.mk (Kd.C_below hr HBW0.out)
  clear hr
  go_enter Try.func5, Try.ntmps5
  by_cases hl : h.length ≤ 120
  · have hlz : ¬ (120 : Int) < (h.length : Int) := by omega
    go_wp2_with fail
    have hcall := right_any A c h _ HR0.out
    generalize hw0 : (w.alloc (.cells #[.int .i64 a0, .int .i64 a1, .int .i64 a2] 43)) = w0 at *
    refine hcall.mono ?_
    rintro e w1 hd
    obtain ⟨rfl, hb⟩ := hd
    have HB1 := Aside0.mk hb
    have HT := Aside0.mk (show ∀ W, Below w0.heap.size w0 W → Below w.heap.size w W from fun W hW => HBW0.out.trans (hW.mono HBW0.out.size))
    have HRW := Aside0.mk (show ∀ W, Below w0.heap.size w0 W → Kd.C k47 W A h.length h from fun W hW => Kd.C_below HR0.out hW)
    generalize hbx : w.heap.size = bx at *
    have HBX := Aside0.mk (show ∀ W, Below w0.heap.size w0 W → W.heap[bx]? = some (.cells #[.int .i64 a0, .int .i64 a1, .int .i64 a2] 43 (0, 0)) from fun W hW => blk_below HBX0.out hW)
    clear hb hcall HBX0 HBW0 HR0
    have HT := Aside0.mk (show ∀ W, Below w0.heap.size w0 W → Below w.heap.size w W from fun W hW => by rw [hbx]; exact HT.out W hW)
    clear hbx hw0
    cases hq : rightH h with
    | false =>
      go_wp2_with fail
      refine (alive_any w1).mono ?_
      rintro e w2 ⟨rfl, hb⟩
      have HB2 := Aside0.mk (HB1.out.trans (hb.mono HB1.out.size))
      clear hb hq
      go_wp2_with fail
      go_ret
      exact ⟨rfl, HT.out _ HB2.out⟩
    | true =>
      have HH := Aside0.mk hq
      clear hq
      have z0 := blk_cell (HBX.out w1 HB1.out) 0
      have z1 := blk_cell (HBX.out w1 HB1.out) 1
      have z2 := blk_cell (HBX.out w1 HB1.out) 2
      go_wp2_with fail
      have hcall := ahead_any A c h a0 a1 w1 (HRW.out _ HB1.out)
      refine hcall.mono ?_
      rintro e w2 ⟨rfl, hb⟩
      have HB2 := Aside0.mk (HB1.out.trans (hb.mono HB1.out.size))
      clear hb hcall
      clear z0 z1 z2
      have z0 := blk_cell (HBX.out w2 HB2.out) 0
      have z1 := blk_cell (HBX.out w2 HB2.out) 1
      have z2 := blk_cell (HBX.out w2 HB2.out) 2
      go_wp2_with fail
      have hcall := ahead_any A c h a1 a2 w2 (HRW.out _ HB2.out)
      refine hcall.mono ?_
      rintro e w3 ⟨rfl, hb⟩
      have HB3 := Aside0.mk (HB2.out.trans (hb.mono HB2.out.size))
      clear hb hcall
      clear z0 z1 z2
      go_wp2_with fail
      have hcall := pending_any A c h w3 (HRW.out _ HB3.out) hc (by omega)
      refine hcall.mono ?_
      rintro e w4 ⟨vp, rfl, hrp, hb⟩
      have HB4 := Aside0.mk (HB3.out.trans (hb.mono HB3.out.size))
      obtain ⟨Ap, cp, rfl, hcp, hCp⟩ := Kd.R_reads hrp
      clear hrp
      have HCP := Aside0.mk hCp
      have hmp := Kd.C_max hCp
      clear hCp hcp
      clear hb hcall
      have HWT := Aside0.mk (fun e => ahead_waits h HH.out a0 a1 e)
      obtain ⟨p, hp⟩ : ∃ p, pendL h = p := ⟨_, rfl⟩
      rw [hp] at HCP hmp HWT ⊢
      clear hp
      go_wp2_with fail
      go_loopw [8, 9] (fun s8 s9 wr => ∃ j : Nat, j ≤ p.length ∧ s9 = .int .i64 j ∧ s8 = .bool (decide (a0 ∈ p.take j)) ∧ Aside0 (Below w4.heap.size w4 wr)) (fun _ c _ => p.length - (intOf c).toNat)
      case atStart => exact ⟨0, Nat.zero_le _, rfl, rfl, ⟨Below.refl _ _⟩⟩
      case round =>
        obtain ⟨j, hj, rfl, rfl, HBR⟩ := hrel
        by_cases hlt : j < p.length
        · have hjl : (j : Int) < (p.length : Int) := by omega
          obtain ⟨ad, e, x0⟩ := (Kd.reads_of_C (d := (0 : Int)) (Kd.C_below HCP.out HBR.out)).at_ (j : Int) (by omega) (by omega)
          cases e
          rw [Int.toNat_natCast] at x0
          have er : rdOf 0 p (j : Int) = p[j] := by unfold rdOf; rw [Int.toNat_natCast, List.getD_eq_getElem?_getD, List.getElem?_eq_getElem hlt]; rfl
          rw [er] at x0
          have HTK := Aside0.mk (show decide (a0 ∈ p.take (j + 1)) = (decide (a0 ∈ p.take j) || (p[j] == a0)) from by
            rw [List.take_succ_eq_append_getElem hlt]
            rw [Bool.eq_iff_iff]
            simp only [List.mem_append, List.mem_singleton, Bool.or_eq_true, decide_eq_true_eq, beq_iff_eq]
            exact ⟨fun o => o.imp id Eq.symm, fun o => o.imp id Eq.symm⟩)
          have z0 := blk_cell (HBX.out wr (HB4.out.trans (HBR.out.mono HB4.out.size))) 0
          clear er
          generalize p[j] = y at *
          generalize decide (a0 ∈ p.take j) = b0 at *
          cases b0 with
          | true =>
            go_wp2_with fail
            go_quiet (fail)
            go_wp2_with fail
            go_roundw
            case rel => exact ⟨j + 1, by omega, by go_num, by rw [HTK.out]; rfl, ⟨below_drewN HBR.out nq⟩⟩
            case measure => simp [intOf]; omega
          | false =>
            go_wp2_with fail
            go_quiet (fail)
            go_wp2_with fail
            go_roundw
            case rel => exact ⟨j + 1, by omega, by go_num, by rw [HTK.out]; rfl, ⟨below_drewN HBR.out nq⟩⟩
            case measure => simp [intOf]; omega
        · obtain rfl : j = p.length := by omega
          rw [List.take_length]
          have HB5 := Aside0.mk (HB4.out.trans (HBR.out.mono HB4.out.size))
          generalize decide (a0 ∈ p) = wt at *
          clear HCP HBR
          go_wp2_with fail
          generalize wr = w5 at *
          have hcall := alive_any w5
          refine hcall.mono ?_
          rintro e w6 ⟨rfl, hb⟩
          have HB6 := Aside0.mk (HB5.out.trans (hb.mono HB5.out.size))
          clear hb hcall
          have z0 := blk_cell (HBX.out w6 HB6.out) 0
          have z1 := blk_cell (HBX.out w6 HB6.out) 1
          have z2 := blk_cell (HBX.out w6 HB6.out) 2
          go_wp2_with fail
          have hcall := ahead_any A c h a0 a0 w6 (HRW.out _ HB6.out)
          rw [ahead_self h HH.out] at hcall
          refine hcall.mono ?_
          rintro e w7 ⟨rfl, hb⟩
          have HB7 := Aside0.mk (HB6.out.trans (hb.mono HB6.out.size))
          clear hb hcall
          clear z0 z1 z2
          have z0 := blk_cell (HBX.out w7 HB7.out) 0
          have z1 := blk_cell (HBX.out w7 HB7.out) 1
          have z2 := blk_cell (HBX.out w7 HB7.out) 2
          cases hx : aheadH h a0 a1 with
          | false =>
            have HX := Aside0.mk hx
            clear hx
            go_wp2_with fail
            go_ret
            exact ⟨rfl, HT.out _ HB7.out⟩
          | true =>
            have HX := Aside0.mk hx
            obtain rfl : wt = false := HWT.out hx
            clear hx
            go_wp2_with fail
            have hcall := ahead_any A c h a1 a0 w7 (HRW.out _ HB7.out)
            rw [ahead_back h HH.out a0 a1 HX.out] at hcall
            refine hcall.mono ?_
            rintro e w8 ⟨rfl, hb⟩
            have HB8 := Aside0.mk (HB7.out.trans (hb.mono HB7.out.size))
            clear hb hcall
            clear z0 z1 z2
            have z0 := blk_cell (HBX.out w8 HB8.out) 0
            have z1 := blk_cell (HBX.out w8 HB8.out) 1
            have z2 := blk_cell (HBX.out w8 HB8.out) 2
            cases hy : aheadH h a1 a2 with
            | false =>
              clear hy
              go_wp2_with fail
              go_ret
              exact ⟨rfl, HT.out _ HB8.out⟩
            | true =>
              have HY := Aside0.mk hy
              clear hy
              go_wp2_with fail
              have hcall := ahead_any A c h a0 a2 w8 (HRW.out _ HB8.out)
              rw [ahead_trans h HH.out a0 a1 a2 HX.out HY.out] at hcall
              refine hcall.mono ?_
              rintro e w9 ⟨rfl, hb⟩
              have HB9 := Aside0.mk (HB8.out.trans (hb.mono HB8.out.size))
              clear hb hcall
              clear z0 z1 z2
              go_wp2_with fail
              go_ret
              exact ⟨rfl, HT.out _ HB9.out⟩
  · have hlz : (120 : Int) < (h.length : Int) := by omega
    go_wp2_with fail
    generalize hw0 : (w.alloc (.cells #[.int .i64 a0, .int .i64 a1, .int .i64 a2] 43)) = w0 at *
    refine (alive_any w0).mono ?_
    rintro e w1 ⟨rfl, hb⟩
    have HB := Aside0.mk (HBW0.out.trans (hb.mono HBW0.out.size))
    clear hb
    go_wp2_with fail
    go_ret
    exact ⟨rfl, HB.out⟩
end Go.Proofs.Ytncdeappiooccaa.H
