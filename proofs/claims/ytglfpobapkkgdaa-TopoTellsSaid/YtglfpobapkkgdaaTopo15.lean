import Derived.Test.YtglfpobapkkgdaaTopoR2
namespace Go.Proofs.Ytglfpobapkkgdaa.H
open Go.RowKit Go.Proofs.Ytglfpobapkkgdaa.P Go.Proofs.YtglfpobapkkgdaaW.PrintWords Go.Proofs.YtglfpobapkkgdaaW.PrintLast Go.Proofs.YtglfpobapkkgdaaW.PrintMore
set_option linter.unusedVariables false
set_option linter.unusedSimpArgs false
/-- Two topologies that came in, and a port's box. -/
structure TD (b : Nat) (A0 : Option Addr) (c0 : Nat) (l0 : List Int) (A1 : Option Addr) (c1 : Nat) (l1 : List S38) (B0 : Option Addr) (d0 : Nat) (m0 : List Int) (B1 : Option Addr) (d1 : Nat) (m1 : List S38) (p0 p1 : Int) (w0 w : World) : Prop where
  t_ : w.heap[b]? = some (.cells #[.slice A0 l0.length c0, .slice A1 l1.length c1] 25 (0, 0))
  u_ : w.heap[b + 1]? = some (.cells #[.slice B0 m0.length d0, .slice B1 m1.length d1] 25 (0, 0))
  p_ : w.heap[b + 1 + 1]? = some (.cells #[.int .i64 p0, .int .i64 p1] 27 (0, 0))
  bel : Below w0.heap.size w0 w
  r0 : Kd.C (Kd.int .i64) w A0 l0.length l0
  r1 : Kd.C k38 w A1 l1.length l1
  s0 : Kd.C (Kd.int .i64) w B0 m0.length m0
  s1 : Kd.C k38 w B1 m1.length m1
theorem TD.below {b : Nat} {A0 : Option Addr} {c0 : Nat} {l0 : List Int} {A1 : Option Addr} {c1 : Nat} {l1 : List S38} {B0 : Option Addr} {d0 : Nat} {m0 : List Int} {B1 : Option Addr} {d1 : Nat} {m1 : List S38} {p0 p1 : Int} {w0 w w1 : World} (h : TD b A0 c0 l0 A1 c1 l1 B0 d0 m0 B1 d1 m1 p0 p1 w0 w) (hb : Below w.heap.size w w1) : TD b A0 c0 l0 A1 c1 l1 B0 d0 m0 B1 d1 m1 p0 p1 w0 w1 :=
  ⟨blk_below h.t_ hb, blk_below h.u_ hb, blk_below h.p_ hb, h.bel.trans (hb.mono h.bel.size), Kd.C_below h.r0 hb, Kd.C_below h.r1 hb, Kd.C_below h.s0 hb, Kd.C_below h.s1 hb⟩
theorem TD.start (w : World) (A0 : Option Addr) (c0 : Nat) (l0 : List Int) (A1 : Option Addr) (c1 : Nat) (l1 : List S38) (B0 : Option Addr) (d0 : Nat) (m0 : List Int) (B1 : Option Addr) (d1 : Nat) (m1 : List S38) (p0 p1 : Int) (hr0 : Kd.C (Kd.int .i64) w A0 l0.length l0) (hr1 : Kd.C k38 w A1 l1.length l1) (hs0 : Kd.C (Kd.int .i64) w B0 m0.length m0) (hs1 : Kd.C k38 w B1 m1.length m1) :
    TD w.heap.size A0 c0 l0 A1 c1 l1 B0 d0 m0 B1 d1 m1 p0 p1 w (((w.alloc (.cells #[.slice A0 l0.length c0, .slice A1 l1.length c1] 25)).alloc (.cells #[.slice B0 m0.length d0, .slice B1 m1.length d1] 25)).alloc (.cells #[.int .i64 p0, .int .i64 p1] 27)) := by
  have hb := (((Below.refl w.heap.size w).alloc (Nat.le_refl _) (.cells #[.slice A0 l0.length c0, .slice A1 l1.length c1] 25)).alloc (by simp) (.cells #[.slice B0 m0.length d0, .slice B1 m1.length d1] 25)).alloc (by simp; omega) (.cells #[.int .i64 p0, .int .i64 p1] 27)
  refine ⟨?_, ?_, ?_, hb, Kd.C_below hr0 hb, Kd.C_below hr1 hb, Kd.C_below hs0 hb, Kd.C_below hs1 hb⟩
  · rw [heap_alloc_get, sz_alloc, sz_alloc, if_neg (by omega), heap_alloc_get, sz_alloc, if_neg (by omega), heap_alloc_get, if_pos rfl]
  · rw [heap_alloc_get, sz_alloc, sz_alloc, if_neg (by omega), heap_alloc_get, sz_alloc, if_pos rfl]
  · rw [heap_alloc_get, sz_alloc, sz_alloc, if_pos rfl]
theorem cells6_below {w w' : World} {a0 a1 a2 a3 a4 a5 : Addr} {v0 v1 v2 v3 v4 v5 : Value} (h : w.cell? a0 = some v0 ∧ w.cell? a1 = some v1 ∧ w.cell? a2 = some v2 ∧ w.cell? a3 = some v3 ∧ w.cell? a4 = some v4 ∧ w.cell? a5 = some v5) (hb : Below w.heap.size w w') :
    w'.cell? a0 = some v0 ∧ w'.cell? a1 = some v1 ∧ w'.cell? a2 = some v2 ∧ w'.cell? a3 = some v3 ∧ w'.cell? a4 = some v4 ∧ w'.cell? a5 = some v5 :=
  ⟨pw_cell_below hb h.1, pw_cell_below hb h.2.1, pw_cell_below hb h.2.2.1, pw_cell_below hb h.2.2.2.1, pw_cell_below hb h.2.2.2.2.1, pw_cell_below hb h.2.2.2.2.2⟩
theorem cells8_below {w w' : World} {a0 a1 a2 a3 a4 a5 a6 a7 : Addr} {v0 v1 v2 v3 v4 v5 v6 v7 : Value} (h : w.cell? a0 = some v0 ∧ w.cell? a1 = some v1 ∧ w.cell? a2 = some v2 ∧ w.cell? a3 = some v3 ∧ w.cell? a4 = some v4 ∧ w.cell? a5 = some v5 ∧ w.cell? a6 = some v6 ∧ w.cell? a7 = some v7) (hb : Below w.heap.size w w') :
    w'.cell? a0 = some v0 ∧ w'.cell? a1 = some v1 ∧ w'.cell? a2 = some v2 ∧ w'.cell? a3 = some v3 ∧ w'.cell? a4 = some v4 ∧ w'.cell? a5 = some v5 ∧ w'.cell? a6 = some v6 ∧ w'.cell? a7 = some v7 :=
  ⟨pw_cell_below hb h.1, pw_cell_below hb h.2.1, pw_cell_below hb h.2.2.1, pw_cell_below hb h.2.2.2.1, pw_cell_below hb h.2.2.2.2.1, pw_cell_below hb h.2.2.2.2.2.1, pw_cell_below hb h.2.2.2.2.2.2.1, pw_cell_below hb h.2.2.2.2.2.2.2⟩
set_option maxHeartbeats 1600000 in
set_option maxRecDepth 20000 in
theorem topoTells_any (A0 : Option Addr) (c0 : Nat) (l0 : List Int) (A1 : Option Addr) (c1 : Nat) (l1 : List S38) (B0 : Option Addr) (d0 : Nat) (m0 : List Int) (B1 : Option Addr) (d1 : Nat) (m1 : List S38) (p0 p1 : Int) (w : World)
    (hr0 : Kd.C (Kd.int .i64) w A0 l0.length l0) (hr1 : Kd.C k38 w A1 l1.length l1) (hc0 : l0.length ≤ c0) (hc1 : l1.length ≤ c1) (hs0 : Kd.C (Kd.int .i64) w B0 m0.length m0) (hs1 : Kd.C k38 w B1 m1.length m1) (hd0 : m0.length ≤ d0) (hd1 : m1.length ≤ d1) :
    Calls Try.prog 6 #[.agg #[.slice A0 l0.length c0, .slice A1 l1.length c1], .agg #[.slice B0 m0.length d0, .slice B1 m1.length d1], .agg #[.int .i64 p0, .int .i64 p1]] w fun e w' => e = .returned (.bool true) ∧ Below w.heap.size w w' := by
  have hu25 := Try.underlying25
  have hu27 := Try.underlying27
  have HT := Aside0.mk (TD.start w A0 c0 l0 A1 c1 l1 B0 d0 m0 B1 d1 m1 p0 p1 hr0 hr1 hs0 hs1)
  have hm0 := Kd.C_max hr0
  have hm1 := Kd.C_max hr1
  have hn0 := Kd.C_max hs0
  have hn1 := Kd.C_max hs1
  have HC := Aside0.mk (And.intro hc0 (And.intro hc1 (And.intro hd0 hd1)))
  clear hr0 hr1 hs0 hs1 hc0 hc1 hd0 hd1
  have HF := Aside0.mk (fun w => fitsLaw_any A0 c0 l0 A1 c1 l1 w hm0 hm1)
  have HG := Aside0.mk (fun w => fitsLaw_any B0 d0 m0 B1 d1 m1 w hn0 hn1)
  obtain ⟨kS, hkS⟩ := (topoSame_ev l0 l1 m0 m1 hm0 hm1).rounds
  obtain ⟨kT, hkT⟩ := (refSame_ev l0 l1 m0 m1 hm0 hm1).rounds
  have HS := Aside0.mk (fun (W : World) (hW : TD w.heap.size A0 c0 l0 A1 c1 l1 B0 d0 m0 B1 d1 m1 p0 p1 w W) => topo_Same.calls kS A0 c0 l0 A1 c1 l1 B0 d0 m0 B1 d1 m1 _ W hW.r0 HC.out.1 hW.r1 HC.out.2.1 hW.s0 HC.out.2.2.1 hW.s1 HC.out.2.2.2 hkS)
  have HS2 := Aside0.mk (fun (W : World) (hW : TD w.heap.size A0 c0 l0 A1 c1 l1 B0 d0 m0 B1 d1 m1 p0 p1 w W) => waystoneref08_Same.calls kT A0 c0 l0 A1 c1 l1 B0 d0 m0 B1 d1 m1 _ W hW.r0 HC.out.1 hW.r1 HC.out.2.1 hW.s0 HC.out.2.2.1 hW.s1 HC.out.2.2.2 hkT)
  obtain ⟨sb, hsb⟩ : ∃ sb, sameT l0 l1 m0 m1 = sb := ⟨_, rfl⟩
  rw [hsb] at HS HS2
  clear hkS hkT hsb
  go_enter Try.func6, Try.ntmps6
  go_wp2_with fail
  generalize (((w.alloc (.cells #[.slice A0 l0.length c0, .slice A1 l1.length c1] 25)).alloc (.cells #[.slice B0 m0.length d0, .slice B1 m1.length d1] 25)).alloc (.cells #[.int .i64 p0, .int .i64 p1] 27)) = W0 at *
  refine (HF.out _).mono ?_
  rintro e w1 ⟨rfl, hb⟩
  have HT1 := Aside0.mk (HT.out.below hb)
  have x0 := blk_cell HT1.out.u_ 0
  have x1 := blk_cell HT1.out.u_ 1
  clear hb HT HF
  go_wp2_with fail
  refine (HG.out _).mono ?_
  rintro e w2 ⟨rfl, hb⟩
  have HT2 := Aside0.mk (HT1.out.below hb)
  clear hb HG x0 x1
  have x0 := blk_cell HT2.out.t_ 0
  have x1 := blk_cell HT2.out.t_ 1
  cases hq2 : fitsB l0 l1 with
  | false =>
    clear hq2
    go_wp2_with fail
    refine (alive_any _).mono ?_
    rintro e w3 ⟨rfl, hb⟩
    have HT3 := Aside0.mk (HT2.out.below hb)
    clear hb
    go_wp2
    go_ret
    exact ⟨rfl, HT3.out.bel⟩
  | true =>
    cases hq3 : fitsB m0 m1 with
    | false =>
      clear hq2 hq3
      go_wp2_with fail
      refine (alive_any _).mono ?_
      rintro e w3 ⟨rfl, hb⟩
      have HT3 := Aside0.mk (HT2.out.below hb)
      clear hb
      go_wp2
      go_ret
      exact ⟨rfl, HT3.out.bel⟩
    | true =>
      have h30 : l0.length ≤ 30 ∧ l1.length ≤ 30 := by
        unfold fitsB at hq2
        simp only [Bool.and_eq_true, decide_eq_true_iff] at hq2
        omega
      have hL0 : l0.length ≤ 1000 := by omega
      have hL1 : l1.length ≤ 1000 := by omega
      obtain ⟨kR, hkR⟩ := (refRight_ev l0 l1 hL0 hL1).rounds
      have HKR := Aside0.mk (fun (W : World) (hW : TD w.heap.size A0 c0 l0 A1 c1 l1 B0 d0 m0 B1 d1 m1 p0 p1 w W) => waystoneref08_Right.calls kR A0 c0 l0 A1 c1 l1 _ W hW.r0 HC.out.1 hW.r1 HC.out.2.1 hkR)
      have HKP := Aside0.mk (fun (W : World) (hW : TD w.heap.size A0 c0 l0 A1 c1 l1 B0 d0 m0 B1 d1 m1 p0 p1 w W) => right_any A0 c0 l0 A1 c1 l1 W hW.r0 hW.r1 HC.out.2.1)
      clear hq2 hq3 hkR h30
      obtain ⟨rb, hrb⟩ : ∃ rb, rightB l0 l1 = rb := ⟨_, rfl⟩
      rw [hrb] at HKR HKP
      have HRB := Aside0.mk hrb
      clear hrb
      go_wp2_with fail
      refine (HKR.out _ HT2.out).mono ?_
      rintro e w3 ⟨rfl, hb⟩
      have HT3 := Aside0.mk (HT2.out.below hb)
      clear hb x0 x1
      have hN : w3.cell? ⟨w.heap.size, 0, none⟩ = some (.slice A0 l0.length c0) ∧ w3.cell? ⟨w.heap.size, 1, none⟩ = some (.slice A1 l1.length c1) ∧ w3.cell? ⟨w.heap.size + 1, 0, none⟩ = some (.slice B0 m0.length d0) ∧ w3.cell? ⟨w.heap.size + 1, 1, none⟩ = some (.slice B1 m1.length d1) :=
        ⟨blk_cell HT3.out.t_ 0, blk_cell HT3.out.t_ 1, blk_cell HT3.out.u_ 0, blk_cell HT3.out.u_ 1⟩
      have HTD := Aside0.mk (HT3.out.below (below_drew (Below.refl _ _)))
      cases rb with
      | false =>
        go_wp2_with fail
        go_region_held3 (fun w' => w'.cell? ⟨w.heap.size, 0, none⟩ = some (.slice A0 l0.length c0) ∧ w'.cell? ⟨w.heap.size, 1, none⟩ = some (.slice A1 l1.length c1) ∧ w'.cell? ⟨w.heap.size + 1, 0, none⟩ = some (.slice B0 m0.length d0) ∧ w'.cell? ⟨w.heap.size + 1, 1, none⟩ = some (.slice B1 m1.length d1)) (first | assumption | go_keep) (first
          | (go_at_call 8; refine (HKP.out _ HTD.out).mono ?_; rintro e w4 ⟨rfl, hb⟩; have HT4 := Aside0.mk (HTD.out.below hb); have K4 := cells4_below (by assumption) hb; clear hb)
          | (go_at_call 19; refine (HS.out _ HT4.out).mono ?_; rintro e w5 ⟨rfl, hb⟩; have HT5 := Aside0.mk (HT4.out.below hb); have K5 := cells4_below (by assumption) hb; clear hb)
          | (go_at_call 20; refine (HS2.out _ HT5.out).mono ?_; rintro e w6 ⟨rfl, hb⟩; have HT6 := Aside0.mk (HT5.out.below hb); have K6 := cells4_below (by assumption) hb; clear hb))
        go_wp2_with fail
        refine (alive_any _).mono ?_
        rintro e w7 ⟨rfl, hb⟩
        have HT7 := Aside0.mk (HT6.out.below hb)
        clear hb
        go_wp2
        go_ret
        exact ⟨rfl, HT7.out.bel⟩
      | true =>
        go_wp2_with fail
        go_region_held3 (fun w' => w'.cell? ⟨w.heap.size, 0, none⟩ = some (.slice A0 l0.length c0) ∧ w'.cell? ⟨w.heap.size, 1, none⟩ = some (.slice A1 l1.length c1) ∧ w'.cell? ⟨w.heap.size + 1, 0, none⟩ = some (.slice B0 m0.length d0) ∧ w'.cell? ⟨w.heap.size + 1, 1, none⟩ = some (.slice B1 m1.length d1)) (first | assumption | go_keep) (first
          | (go_at_call 8; refine (HKP.out _ HTD.out).mono ?_; rintro e w4 ⟨rfl, hb⟩; have HT4 := Aside0.mk (HTD.out.below hb); have K4 := cells4_below (by assumption) hb; clear hb)
          | (go_at_call 19; refine (HS.out _ HT4.out).mono ?_; rintro e w5 ⟨rfl, hb⟩; have HT5 := Aside0.mk (HT4.out.below hb); have K5 := cells4_below (by assumption) hb; clear hb)
          | (go_at_call 20; refine (HS2.out _ HT5.out).mono ?_; rintro e w6 ⟨rfl, hb⟩; have HT6 := Aside0.mk (HT5.out.below hb); have K6 := cells4_below (by assumption) hb; clear hb))
        have HRT := Aside0.mk ((right_iff l0 l1).1 HRB.out)
        have z0 := blk_cell HT6.out.t_ 0
        have z1 := blk_cell HT6.out.t_ 1
        have y0 := blk_cell HT6.out.p_ 0
        have y1 := blk_cell HT6.out.p_ 1
        obtain ⟨kN, hkN⟩ := (refNext_ev l0 l1 HRT.out p0 p1).rounds
        obtain ⟨kE, hkE⟩ := (refEdges_ev l0 l1 HRT.out).rounds
        have h1 := fun (W : World) (hW : TD w.heap.size A0 c0 l0 A1 c1 l1 B0 d0 m0 B1 d1 m1 p0 p1 w W) => next_any A0 c0 l0 A1 c1 l1 ⟨p0, p1⟩ W hW.r1 HC.out.2.1
        have h2 := fun (W : World) (hW : TD w.heap.size A0 c0 l0 A1 c1 l1 B0 d0 m0 B1 d1 m1 p0 p1 w W) => waystoneref08_Next.calls kN A0 c0 l0 A1 c1 l1 p0 p1 _ _ _ W hW.r0 HC.out.1 hW.r1 HC.out.2.1 hkN
        have h3 := fun (W : World) (hW : TD w.heap.size A0 c0 l0 A1 c1 l1 B0 d0 m0 B1 d1 m1 p0 p1 w W) => has_any A0 c0 l0 (.slice A1 l1.length c1) ⟨p0, p1⟩ W hW.r0 rfl
        have h4 := fun (W : World) (hW : TD w.heap.size A0 c0 l0 A1 c1 l1 B0 d0 m0 B1 d1 m1 p0 p1 w W) => refHas_any A0 c0 l0 (.slice A1 l1.length c1) ⟨p0, p1⟩ W hW.r0 rfl
        have h5 := fun (W : World) (hW : TD w.heap.size A0 c0 l0 A1 c1 l1 B0 d0 m0 B1 d1 m1 p0 p1 w W) => edges_any A0 c0 l0 A1 c1 l1 W hW.r0 hW.r1 HC.out.2.1 (by have := HRT.out.n8; omega)
        have h6 := fun (W : World) (hW : TD w.heap.size A0 c0 l0 A1 c1 l1 B0 d0 m0 B1 d1 m1 p0 p1 w W) => waystoneref08_Edges.calls kE A0 c0 l0 A1 c1 l1 _ W hW.r0 HC.out.1 hW.r1 HC.out.2.1 hkE
        have hEl := edgesE_len l0 (joinL l1) l0.length
        have hn8 := HRT.out.n8
        obtain ⟨kP, hkP⟩ := (samePorts_ev (edgesE l0 (joinL l1) l0.length) (by omega)).rounds
        generalize edgesE l0 (joinL l1) l0.length = E at *
        generalize nextQ l1 ⟨p0, p1⟩ = q at *
        generalize nextB l1 ⟨p0, p1⟩ = nb at *
        generalize hasB l0 ⟨p0, p1⟩ = hh at *
        obtain ⟨q0, q1⟩ := q
        simp only [encP] at h1 h2 h3 h4
        have H1 := Aside0.mk h1
        have H2 := Aside0.mk h2
        have H3 := Aside0.mk h3
        have H4 := Aside0.mk h4
        have H5 := Aside0.mk h5
        have H6 := Aside0.mk h6
        have HKP2 := Aside0.mk hkP
        clear h1 h2 h3 h4 h5 h6 hkN hkE hkP hEl hn8 hN
        go_wp2_with fail
        refine (H1.out _ HT6.out).mono ?_
        rintro e w7 ⟨rfl, hb⟩
        have hb7 := hb.alloc hb.size (.cells #[.int .i64 q0, .int .i64 q1] 27)
        have HT7 := Aside0.mk (HT6.out.below hb7)
        have N10 := Aside0.mk (blk_new w7 (.cells #[.int .i64 q0, .int .i64 q1] 27))
        clear hb hb7 z0 z1 y0 y1
        have z0 := blk_cell HT7.out.t_ 0
        have z1 := blk_cell HT7.out.t_ 1
        have y0 := blk_cell HT7.out.p_ 0
        have y1 := blk_cell HT7.out.p_ 1
        go_wp2_with fail
        generalize w7.alloc (.cells #[.int .i64 q0, .int .i64 q1] 27) = W7 at *
        generalize w7.heap.size = b10 at *
        refine (H2.out _ HT7.out).mono ?_
        rintro e w8 ⟨rfl, hb⟩
        have hb8 := hb.alloc hb.size (.cells #[.int .i64 q0, .int .i64 q1] 27)
        have HT8 := Aside0.mk (HT7.out.below hb8)
        have N10 := Aside0.mk (blk_below N10.out hb8)
        have N12 := Aside0.mk (blk_new w8 (.cells #[.int .i64 q0, .int .i64 q1] 27))
        clear hb hb8 z0 z1 y0 y1
        go_wp2_with fail
        generalize w8.alloc (.cells #[.int .i64 q0, .int .i64 q1] 27) = W8 at *
        generalize w8.heap.size = b12 at *
        have hN : W8.cell? ⟨w.heap.size, 0, none⟩ = some (.slice A0 l0.length c0) ∧ W8.cell? ⟨w.heap.size, 1, none⟩ = some (.slice A1 l1.length c1) ∧ W8.cell? ⟨w.heap.size + 1 + 1, 0, none⟩ = some (.int .i64 p0) ∧ W8.cell? ⟨w.heap.size + 1 + 1, 1, none⟩ = some (.int .i64 p1) ∧ W8.cell? ⟨b10, 0, none⟩ = some (.int .i64 q0) ∧ W8.cell? ⟨b10, 1, none⟩ = some (.int .i64 q1) ∧ W8.cell? ⟨b12, 0, none⟩ = some (.int .i64 q0) ∧ W8.cell? ⟨b12, 1, none⟩ = some (.int .i64 q1) :=
          ⟨blk_cell HT8.out.t_ 0, blk_cell HT8.out.t_ 1, blk_cell HT8.out.p_ 0, blk_cell HT8.out.p_ 1, blk_cell N10.out 0, blk_cell N10.out 1, blk_cell N12.out 0, blk_cell N12.out 1⟩
        have HTD2 := Aside0.mk (HT8.out.below (below_drew (Below.refl _ _)))
        go_region_held3 (fun w' => w'.cell? ⟨w.heap.size, 0, none⟩ = some (.slice A0 l0.length c0) ∧ w'.cell? ⟨w.heap.size, 1, none⟩ = some (.slice A1 l1.length c1) ∧ w'.cell? ⟨w.heap.size + 1 + 1, 0, none⟩ = some (.int .i64 p0) ∧ w'.cell? ⟨w.heap.size + 1 + 1, 1, none⟩ = some (.int .i64 p1) ∧ w'.cell? ⟨b10, 0, none⟩ = some (.int .i64 q0) ∧ w'.cell? ⟨b10, 1, none⟩ = some (.int .i64 q1) ∧ w'.cell? ⟨b12, 0, none⟩ = some (.int .i64 q0) ∧ w'.cell? ⟨b12, 1, none⟩ = some (.int .i64 q1)) (first | assumption | go_keep) (first
          | (go_at_call 9; refine (alive_any _).mono ?_; rintro e v1 ⟨rfl, hb⟩; have HU1 := Aside0.mk (HTD2.out.below hb); have K1 := cells8_below (by assumption) hb; clear hb)
          | (go_at_call 11; refine (H3.out _ HU1.out).mono ?_; rintro e v2 ⟨rfl, hb⟩; have HU2 := Aside0.mk (HU1.out.below hb); have K2 := cells8_below (by assumption) hb; clear hb)
          | (go_at_call 22; refine (H4.out _ HU2.out).mono ?_; rintro e v3 ⟨rfl, hb⟩; have HU3 := Aside0.mk (HU2.out.below hb); have K3 := cells8_below (by assumption) hb; clear hb)
          | (go_at_call 12; refine (H5.out _ HU3.out).mono ?_; rintro e v4 ⟨⟨ve, rfl, hv⟩, hb⟩; obtain ⟨AE, cE, rfl, hcE, hCE⟩ := Kd.R_reads hv; have HCE := Aside0.mk hCE; have HcE := Aside0.mk hcE; have HU4 := Aside0.mk (HU3.out.below hb); have K4 := cells8_below (by assumption) hb; clear hb hv hCE hcE)
          | (go_at_call 24; refine (H6.out _ HU4.out).mono ?_; rintro e v5 ⟨ve, rfl, hv, hb⟩; obtain ⟨AF, cF, rfl, hcF, hCF⟩ := Kd.R_reads hv; have HCF := Aside0.mk hCF; have HcF := Aside0.mk hcF; have HCE5 := Aside0.mk (Kd.C_below HCE.out hb); have HU5 := Aside0.mk (HU4.out.below hb); have K5 := cells8_below (by assumption) hb; clear hb hv hCF hcF)
          | (go_at_call 23; refine (waystoneref08_SamePorts.calls kP AE cE E AF cF E true _ HCE5.out HcE.out HCF.out HcF.out HKP2.out).mono ?_; rintro e v6 ⟨rfl, hd⟩; have hb := hd.below; have HU6 := Aside0.mk (HU5.out.below hb); have K6 := cells8_below (by assumption) hb; clear hb hd))
        go_wp2
        go_ret
        exact ⟨rfl, HU6.out.bel⟩
end Go.Proofs.Ytglfpobapkkgdaa.H
