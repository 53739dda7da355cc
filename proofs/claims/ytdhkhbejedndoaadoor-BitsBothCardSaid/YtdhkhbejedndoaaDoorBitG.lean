/- BitsOf: walked. -/
import Derived.Test.YtdhkhbejedndoaaDoorBitF
namespace Go.Proofs.YtdhkhbejedndoaaDoor.H
open Go.RowKit Go.Proofs.YtdhkhbejedndoaaDoor.P Go.Proofs.YtdhkhbejedndoaaDoorW.PrintWords Go.Proofs.YtdhkhbejedndoaaDoorW.PrintLast Go.Proofs.YtdhkhbejedndoaaDoorW.PrintMore
set_option linter.unusedVariables false
set_option linter.unusedSimpArgs false
theorem withM_len {m n : List Bool} {i k : Int} (h : withM m i k = some n) : n.length = m.length := by
  unfold withM at h
  split at h
  · cases h; exact setR_len _ _ _
  · cases h
set_option maxRecDepth 20000 in
set_option maxHeartbeats 8000000 in
theorem bitsOf_any (size : Int) (A : Option Addr) (c : Nat) (l : List Int) (a b : Int) (w : World) (hsz : isI64 size) (hr : Kd.C (Kd.int .i64) w A l.length l) (hc : l.length ≤ c) (hI : ∀ y ∈ l, isI64 y) (hT : TabAt 0 Lib.deBruijn64tab w) :
    Calls Tryd.prog 4 #[.int .i64 size, .slice A l.length c, .agg #[.int .i64 a, .int .i64 b]] w fun e w' => e = .returned (.bool true) ∧ Below w.heap.size w w' := by
  have hu35 := Tryd.underlying35
  have hb0 : Below w.heap.size w (w.alloc (.cells #[.int .i64 a, .int .i64 b] 35)) := (Below.refl w.heap.size w).alloc (Nat.le_refl _) _
  have HY0 := Aside0.mk (blk_new w (.cells #[.int .i64 a, .int .i64 b] 35))
  have HT0 := Aside0.mk (tab_below hT hb0)
  have HC0 := Aside0.mk (Kd.C_below hr hb0)
  have HB0 := Aside0.mk hb0
  have hll : l.length ≤ 9223372036854775807 := hr.2.1
  have HLL := Aside0.mk hll
  have HCC := Aside0.mk hc
  obtain ⟨kO, hkO⟩ := (of_ev size l hll).rounds
  obtain ⟨r, hr0⟩ : ∃ r, r = ofM size l := ⟨_, rfl⟩
  rw [← hr0] at hkO
  have HKO := Aside0.mk hkO
  have HR := Aside0.mk hr0
  clear hsz hr hc hI hT hr0 hkO hb0 hll
  go_enter Tryd.func4, Tryd.ntmps4
  by_cases h200 : (200 : Int) < (l.length : Int)
  · go_wp2_with fail
    generalize (w.alloc (.cells #[.int .i64 a, .int .i64 b] 35)) = w0 at *
    refine (alive_any w0 HT0.out).mono ?_
    rintro e w1 ⟨rfl, hb⟩
    have HB1 := Aside0.mk (HB0.out.trans (hb.mono HB0.out.size))
    clear hb
    go_wp2_with fail
    go_ret
    exact ⟨rfl, HB1.out⟩
  · go_wp2_with fail
    generalize (w.alloc (.cells #[.int .i64 a, .int .i64 b] 35)) = w0 at *
    have hof := Of_int size A c l w0 HC0.out HLL.out
    rw [← HR.out] at hof
    refine hof.mono ?_
    rintro e w1 ⟨h, hb⟩
    have HB1 := Aside0.mk (HB0.out.trans (hb.mono HB0.out.size))
    have HC1 := Aside0.mk (Kd.C_below HC0.out hb)
    have HT1 := Aside0.mk (tab_below HT0.out hb)
    have HY1 := Aside0.mk (blk_below HY0.out hb)
    clear hof hb HC0 HT0 HB0 HY0
    rcases h with ⟨h, rfl⟩ | ⟨m, gs, h, rfl, hs⟩
    · have hrf := waystoneref06_Of.calls kO size A c l [] 61 w1 HC1.out HCC.out (by rw [HKO.out, h]; rfl)
      clear h
      go_wp2_with fail
      refine hrf.mono ?_
      rintro e w2 ⟨v0, rfl, hv, hb⟩
      have HB2 := Aside0.mk (HB1.out.trans (hb.mono HB1.out.size))
      have HT2 := Aside0.mk (tab_below HT1.out hb)
      clear hrf hb hv HB1 HT1 HY1 HC1
      go_wp2_with fail
      refine (alive_any w2 HT2.out).mono ?_
      rintro e w3 ⟨rfl, hb⟩
      have HB3 := Aside0.mk (HB2.out.trans (hb.mono HB2.out.size))
      clear hb
      go_wp2_with fail
      go_ret
      exact ⟨rfl, HB3.out⟩
    · have hrf := waystoneref06_Of.calls kO size A c l m 0 w1 HC1.out HCC.out (by rw [HKO.out, h]; rfl)
      obtain ⟨hm1, hm2⟩ := ofM_len (HR.out.symm.trans h)
      have HS1 := Aside0.mk hs.to
      have HM2 := Aside0.mk hm2
      clear h hs hm1 hm2
      go_wp2_with fail
      refine hrf.mono ?_
      rintro e w2 ⟨v0, rfl, hv, hb⟩
      have HB2 := Aside0.mk (HB1.out.trans (hb.mono HB1.out.size))
      have HT2 := Aside0.mk (tab_below HT1.out hb)
      have HS2 := Aside0.mk (HS1.out.below hb)
      have HY2 := Aside0.mk (blk_below HY1.out hb)
      obtain ⟨A2, c2, rfl, hc2, hC2⟩ := Kd.R_reads hv
      have HC2 := Aside0.mk hC2
      have HCC2 := Aside0.mk hc2
      clear hrf hb hv hc2 hC2 HS1 HB1 HT1 HY1 HC1
      have y0 := blk_cell HY2.out 0
      have y1 := blk_cell HY2.out 1
      obtain ⟨rw0, hrw0⟩ : ∃ rw0, rw0 = withM m a b := ⟨_, rfl⟩
      have HRW := Aside0.mk hrw0
      clear hrw0
      go_wp2_with fail
      have hw := with_any _ m a b w2 HS2.out HM2.out
      rw [← HRW.out] at hw
      refine hw.mono ?_
      rintro e w3 ⟨h, hb⟩
      have HB3 := Aside0.mk (HB2.out.trans (hb.mono HB2.out.size))
      have HT3 := Aside0.mk (tab_below HT2.out hb)
      have HS3 := Aside0.mk (HS2.out.below hb)
      have HY3 := Aside0.mk (blk_below HY2.out hb)
      have HC3 := Aside0.mk (Kd.C_below HC2.out hb)
      clear hw hb HB2 HT2 HS2 HY2 HC2 y0 y1
      have y0 := blk_cell HY3.out 0
      have y1 := blk_cell HY3.out 1
      obtain ⟨kW, hkW⟩ := (with_ev m a b HM2.out).rounds
      rw [← HRW.out] at hkW
      have HKW := Aside0.mk hkW
      clear hkW
      rcases h with ⟨h, rfl⟩ | ⟨n, gn, h, rfl, hs⟩
      · have hrf := waystoneref06_With.calls kW A2 c2 m a b [] 61 w3 HC3.out HCC2.out (by rw [HKW.out, h]; rfl)
        clear h
        go_wp2_with fail
        refine hrf.mono ?_
        rintro e w4 ⟨v0, rfl, hv, hb⟩
        have HB4 := Aside0.mk (HB3.out.trans (hb.mono HB3.out.size))
        have HT4 := Aside0.mk (tab_below HT3.out hb)
        have HS4 := Aside0.mk (HS3.out.below hb)
        have HC4 := Aside0.mk (Kd.C_below HC3.out hb)
        clear hrf hb hv HB3 HT3 HS3 HC3 y0 y1 HY3
        go_wp2_with fail
        refine (same_any m _ A2 c2 w4 HS4.out HM2.out HT4.out HC4.out HCC2.out).mono ?_
        rintro e w5 ⟨rfl, hb⟩
        have HB5 := Aside0.mk (HB4.out.trans (hb.mono HB4.out.size))
        have HT5 := Aside0.mk (tab_below HT4.out hb)
        clear hb HB4 HT4 HS4 HC4
        go_wp2_with fail
        refine (alive_any w5 HT5.out).mono ?_
        rintro e w6 ⟨rfl, hb⟩
        have HB6 := Aside0.mk (HB5.out.trans (hb.mono HB5.out.size))
        clear hb
        go_wp2_with fail
        go_ret
        exact ⟨rfl, HB6.out⟩
      · have hrf := waystoneref06_With.calls kW A2 c2 m a b n 0 w3 HC3.out HCC2.out (by rw [HKW.out, h]; rfl)
        have HN2 := Aside0.mk (show n.length ≤ 1024 from by rw [withM_len (HRW.out.symm.trans h)]; exact HM2.out)
        have HSN3 := Aside0.mk hs.to
        clear h hs
        go_wp2_with fail
        refine hrf.mono ?_
        rintro e w4 ⟨v0, rfl, hv, hb⟩
        have HB4 := Aside0.mk (HB3.out.trans (hb.mono HB3.out.size))
        have HT4 := Aside0.mk (tab_below HT3.out hb)
        have HS4 := Aside0.mk (HS3.out.below hb)
        have HSN4 := Aside0.mk (HSN3.out.below hb)
        have HC4 := Aside0.mk (Kd.C_below HC3.out hb)
        obtain ⟨A3, c3, rfl, hc3, hC3⟩ := Kd.R_reads hv
        have HCN4 := Aside0.mk hC3
        have HCCN := Aside0.mk hc3
        clear hrf hb hv hc3 hC3 HB3 HT3 HS3 HSN3 HC3 y0 y1 HY3
        go_wp2_with fail
        refine (same_any m _ A2 c2 w4 HS4.out HM2.out HT4.out HC4.out HCC2.out).mono ?_
        rintro e w5 ⟨rfl, hb⟩
        have HB5 := Aside0.mk (HB4.out.trans (hb.mono HB4.out.size))
        have HT5 := Aside0.mk (tab_below HT4.out hb)
        have HSN5 := Aside0.mk (HSN4.out.below hb)
        have HCN5 := Aside0.mk (Kd.C_below HCN4.out hb)
        clear hb HB4 HT4 HS4 HC4 HSN4 HCN4
        go_wp2_with fail
        refine (same_any n _ A3 c3 w5 HSN5.out HN2.out HT5.out HCN5.out HCCN.out).mono ?_
        rintro e w6 ⟨rfl, hb⟩
        have HB6 := Aside0.mk (HB5.out.trans (hb.mono HB5.out.size))
        have HT6 := Aside0.mk (tab_below HT5.out hb)
        clear hb HB5 HT5
        go_wp2_with fail
        refine (alive_any w6 HT6.out).mono ?_
        rintro e w7 ⟨rfl, hb⟩
        have HB7 := Aside0.mk (HB6.out.trans (hb.mono HB6.out.size))
        clear hb
        go_wp2_with fail
        go_ret
        exact ⟨rfl, HB7.out⟩
end Go.Proofs.YtdhkhbejedndoaaDoor.H
