/- Held.do: walked. -/
import Derived.Test.YtbiccahkniadfaaTree12
import Derived.Deep.RegionHeld3
namespace Go.Proofs.Ytbiccahkniadfaa.H
open Go.RowKit Go.Proofs.Ytbiccahkniadfaa.P Go.Proofs.YtbiccahkniadfaaW.PrintWords Go.Proofs.YtbiccahkniadfaaW.PrintLast Go.Proofs.YtbiccahkniadfaaW.PrintMore
set_option linter.unusedVariables false
set_option linter.unusedSimpArgs false
theorem cb {W V : World} {a : Addr} {u : Value} (h : W.cell? a = some u) (hb : Below W.heap.size W V) : V.cell? a = some u := by
  have := hb.block a.block (World.block_lt_of_cell? W a h)
  simpa [World.cell?, this] using h
theorem HeldAt.below {W W' : World} {H : Nat} {t : T} (h : HeldAt W H t) (hb : Below W.heap.size W W') : HeldAt W' H t := by
  obtain ⟨P, v, h1, h2, h3⟩ := h
  exact ⟨P, v, blk_below h1 hb, h2.below hb, Kd.V_below h3 hb⟩
/-- A call of the document's Drop. -/
theorem ref_drop (k : Int) (t : T) (hf : Fit t) (u : Value) (H : Nat) (w : World) (hH : H < w.heap.size) (hv : Kd.V k50 50 w 0 (fun k => k ≠ H) u (encT (toL t))) :
    Calls Try.prog 33 #[u, .int .u64 k] w fun e w' => (∃ u', e = .returned (.tuple #[u', .int .i64 (if hasT k t then 0 else 42)]) ∧ (hasT k t = true → Kd.V k50 50 w' 0 (fun k => k ≠ H) u' (encT (toL (withoutT k t))))) ∧ Below w.heap.size w w' := by
  have h1 := drop_ev k (toL t) (by rw [toL_len]; have := hf.size; omega) hf.srt
  rw [hasL_eq k t hf.srt] at h1
  obtain ⟨n, hn⟩ := h1.rounds
  obtain ⟨A, c, rfl, hl, hF⟩ := hv
  cases hh : hasT k t with
  | false =>
    rw [hh] at hn
    refine (waystoneref04_Drop.calls n A c _ k _ _ w (Kd.F_now hF) hl hn).mono ?_
    rintro e w' ⟨u', rfl, hR, hb⟩
    exact ⟨⟨u', rfl, fun h => by cases h⟩, hb⟩
  | true =>
    rw [hh] at hn
    have e := toL_drop k t hf.srt hh
    refine (waystoneref04_Drop.calls n A c _ k _ _ w (Kd.F_now hF) hl hn).mono ?_
    rintro e w' ⟨u', rfl, hR, hb⟩
    refine ⟨⟨u', rfl, fun _ => ?_⟩, hb⟩
    rw [toL_drop k t hf.srt hh]
    exact Kd.R_V (Kd.R_mono (Kd.R_bound hR) fun k hk => by have := hk.2.1; omega)
theorem drop_no (P : Option Addr) (k : Int) (t : T) (w : World) (h : RootAt w P t) (hs : sz t ≤ 40000) (hf : hasT k t = false) :
    Calls Try.prog 11 #[.pointer P, .int .u64 k] w fun e w' => e = .returned (.tuple #[.pointer none, .int .i64 42]) ∧ Below w.heap.size w w' := by
  refine (drop_any P k t w h hs).mono ?_
  rintro e w' ⟨⟨_, h1⟩ | ⟨h2, _⟩, hb⟩
  · exact ⟨h1, hb⟩
  · rw [hf] at h2; cases h2
def dropT (k : Int) (t : T) : T := if hasT k t then withoutT k t else t
theorem Fit.drop {t : T} (h : Fit t) (k : Int) : Fit (dropT k t) := by
  unfold dropT
  cases hh : hasT k t with
  | false => exact h
  | true =>
    have h1 := toL_without k t
    exact ⟨List.Pairwise.sublist h1.1 h.srt, (bal_without k t h.bal).1, by have := h1.2 hh; have := h.size; show sz (withoutT k t) ≤ 1024; omega⟩
def putsT (k : Int) : Nat → T → T
  | 0, t => t
  | n + 1, t => putT (IntKind.u64.wrap (k + (n : Int))) (n : Int) (putsT k n t)
theorem Fit.puts {t : T} (h : Fit t) (k : Int) : ∀ n, Fit (putsT k n t)
  | 0 => h
  | n + 1 => (Fit.puts h k n).put _ _
def cnt (v : Int) : Nat := if v ≤ 0 then 0 else if v < 30 then v.toNat else 30
set_option maxRecDepth 20000 in
set_option maxHeartbeats 4000000 in
theorem do1 (H : Nat) (v k : Int) (low : Bool) (t : T) (w : World) (h : HeldAt w H t) (hf : Fit t) :
    Calls Try.prog 17 #[.pointer (some ⟨H, 0, none⟩), .agg #[.int .i64 1, .int .i64 v, .int .u64 k, .bool low]] w fun e w' => e = .returned (.bool true) ∧ HeldAt w' H (putT k v t) ∧ Bel H w w' := by
  have hb0 := (Below.refl w.heap.size w).alloc (Nat.le_refl _) (.cells #[.int .i64 1, .int .i64 v, .int .u64 k, .bool low] 42)
  have HB0 := Aside0.mk hb0
  have HX := Aside0.mk (blk_new w (.cells #[.int .i64 1, .int .i64 v, .int .u64 k, .bool low] 42))
  have HH := Aside0.mk (h.below hb0)
  have HF := Aside0.mk hf
  clear hb0 h hf
  go_enter Try.func17, Try.ntmps17
  go_wp2_with fail
  refine (hput_any H k v t _ HH.out HF.out).mono ?_
  rintro e w2 ⟨rfl, hh, hb⟩
  have HH2 := Aside0.mk hh
  have HB2 := Aside0.mk ((Bel.of HB0.out).trans hb)
  clear hh hb
  go_wp2_with fail
  go_ret
  exact ⟨rfl, HH2.out, HB2.out⟩
set_option maxRecDepth 20000 in
set_option maxHeartbeats 4000000 in
theorem do2 (H : Nat) (v k : Int) (low : Bool) (t : T) (w : World) (h : HeldAt w H t) (hf : Fit t) :
    Calls Try.prog 17 #[.pointer (some ⟨H, 0, none⟩), .agg #[.int .i64 2, .int .i64 v, .int .u64 k, .bool low]] w fun e w' => e = .returned (.bool true) ∧ HeldAt w' H (dropT k t) ∧ Bel H w w' := by
  have hb0 := (Below.refl w.heap.size w).alloc (Nat.le_refl _) (.cells #[.int .i64 2, .int .i64 v, .int .u64 k, .bool low] 42)
  have HB0 := Aside0.mk hb0
  have HX := Aside0.mk (blk_new w (.cells #[.int .i64 2, .int .i64 v, .int .u64 k, .bool low] 42))
  obtain ⟨P, u, hH, hr, hv⟩ := h.below hb0
  have HR := Aside0.mk hr
  have HV := Aside0.mk hv
  have HH := Aside0.mk hH
  have HF := Aside0.mk hf
  clear hb0 h hf hr hv hH
  go_enter Try.func17, Try.ntmps17
  go_wp2_with fail
  generalize (w.alloc (.cells #[.int .i64 2, .int .i64 v, .int .u64 k, .bool low] 42)) = w0 at *
  have hc : w0.cell? ⟨H, 0, none⟩ = some (.pointer P) ∧ w0.cell? ⟨w.heap.size, 2, none⟩ = some (.int .u64 k) := ⟨blk_cell HH.out 0, blk_cell HX.out 2⟩
  have HBD := Aside0.mk (below_drew (Below.refl w0.heap.size w0))
  cases hh : hasT k t with
  | true =>
    have HD := Aside0.mk (show dropT k t = withoutT k t from by unfold dropT; rw [hh]; rfl)
    have HDROP := Aside0.mk (drop_ok P k t w0.drew (HR.out.below HBD.out) (by have := HF.out.size; omega) hh)
    have HREF := Aside0.mk (fun W hW hV => ref_drop k t HF.out u H W hW hV)
    rw [hh] at HREF
    clear hh
    go_region_held3 (fun w' => w'.cell? ⟨H, 0, none⟩ = some (.pointer P) ∧ w'.cell? ⟨w.heap.size, 2, none⟩ = some (.int .u64 k)) (first | assumption | go_keep) (first
      | (go_at_call 11; refine HDROP.out.mono ?_; rintro e w1 ⟨⟨g, rfl, hg⟩, hb⟩; have HB1 := Aside0.mk (HBD.out.trans (hb.mono HBD.out.size)); have K1 : w1.cell? ⟨H, 0, none⟩ = some (.pointer P) ∧ w1.cell? ⟨w.heap.size, 2, none⟩ = some (.int .u64 k) := ⟨cb (blk_cell HH.out 0) HB1.out, cb (blk_cell HX.out 2) HB1.out⟩; have HG := Aside0.mk hg; clear hg; clear hb))
    clear HDROP K1 hc
    have HBD1 := Aside0.mk (HB1.out.trans ((below_drew (Below.refl _ w1)).mono HB1.out.size))
    have HV1 := Aside0.mk (Kd.V_below HV.out HBD1.out)
    have HH1 := Aside0.mk (blk_below HH.out HBD1.out)
    have HX1 := Aside0.mk (blk_below HX.out HBD1.out)
    have HR1 := Aside0.mk (HR.out.below HBD1.out)
    have HG1 := Aside0.mk (HG.out.below (below_drew (Below.refl _ w1)))
    have K1 : w1.cell? ⟨H, 1, none⟩ = some u ∧ w1.cell? ⟨w.heap.size, 2, none⟩ = some (.int .u64 k) := ⟨cb (blk_cell HH.out 1) HB1.out, cb (blk_cell HX.out 2) HB1.out⟩
    go_wp2_with fail
    go_region_held3 (fun w' => w'.cell? ⟨H, 1, none⟩ = some u ∧ w'.cell? ⟨w.heap.size, 2, none⟩ = some (.int .u64 k)) (first | assumption | go_keep) (first
      | (go_at_call 33; refine (HREF.out w1.drew (blk_lt HH1.out) HV1.out).mono ?_; rintro e w2 ⟨⟨u', rfl, hu⟩, hb⟩; have HB2 := Aside0.mk (HBD1.out.trans (hb.mono HBD1.out.size)); have K2 : w2.cell? ⟨H, 1, none⟩ = some u ∧ w2.cell? ⟨w.heap.size, 2, none⟩ = some (.int .u64 k) := ⟨cb (blk_cell HH1.out 1) hb, cb (blk_cell HX1.out 2) hb⟩; have HH2 := Aside0.mk (blk_below HH1.out hb); have HV2 := Aside0.mk (Kd.V_below HV1.out hb); have HR2 := Aside0.mk (HR1.out.below hb); have HG2 := Aside0.mk (HG1.out.below hb); have HU2 := Aside0.mk (hu trivial); clear hb hu))
    clear K2 K1 HREF
    obtain ⟨A', c', rfl⟩ := Kd.V_slice HU2.out
    have k0 := blk_cell HH2.out 0
    have k1 := blk_cell HH2.out 1
    have f0 := blk_frozen HH2.out 0
    have f1 := blk_frozen HH2.out 1
    go_wp2_with fail
    go_ret
    have m1 := blk_set (blk_set HH2.out 0 (.pointer (some ⟨g, 0, none⟩))) 1 (.slice A' (encT (toL (withoutT k t))).length c')
    have hk : KeepBut w2 ((w2.setCell ⟨H, 0, none⟩ (.pointer (some ⟨g, 0, none⟩))).setCell ⟨H, 1, none⟩ (.slice A' (encT (toL (withoutT k t))).length c')) H none := ((KeepBut.refl _ _ _).set_ 0 _).set_ 1 _
    exact ⟨rfl, by rw [HD.out]; exact ⟨_, _, m1, HG2.out.keep HH2.out hk, Kd.V_keep HU2.out hk (fun _ h => h)⟩, (((Bel.of HB0.out).trans (Bel.of HB2.out)).set 0 _).set 1 _⟩
  | false =>
    have HD := Aside0.mk (show dropT k t = t from by unfold dropT; rw [hh]; rfl)
    have HDROP := Aside0.mk (drop_no P k t w0.drew (HR.out.below HBD.out) (by have := HF.out.size; omega) hh)
    have HREF := Aside0.mk (fun W hW hV => ref_drop k t HF.out u H W hW hV)
    rw [hh] at HREF
    clear hh
    go_region_held3 (fun w' => w'.cell? ⟨H, 0, none⟩ = some (.pointer P) ∧ w'.cell? ⟨w.heap.size, 2, none⟩ = some (.int .u64 k)) (first | assumption | go_keep) (first
      | (go_at_call 11; refine HDROP.out.mono ?_; rintro e w1 ⟨rfl, hb⟩; have HB1 := Aside0.mk (HBD.out.trans (hb.mono HBD.out.size)); have K1 : w1.cell? ⟨H, 0, none⟩ = some (.pointer P) ∧ w1.cell? ⟨w.heap.size, 2, none⟩ = some (.int .u64 k) := ⟨cb (blk_cell HH.out 0) HB1.out, cb (blk_cell HX.out 2) HB1.out⟩; clear hb))
    clear HDROP K1 hc
    have HBD1 := Aside0.mk (HB1.out.trans ((below_drew (Below.refl _ w1)).mono HB1.out.size))
    have HV1 := Aside0.mk (Kd.V_below HV.out HBD1.out)
    have HH1 := Aside0.mk (blk_below HH.out HBD1.out)
    have HX1 := Aside0.mk (blk_below HX.out HBD1.out)
    have HR1 := Aside0.mk (HR.out.below HBD1.out)
    have K1 : w1.cell? ⟨H, 1, none⟩ = some u ∧ w1.cell? ⟨w.heap.size, 2, none⟩ = some (.int .u64 k) := ⟨cb (blk_cell HH.out 1) HB1.out, cb (blk_cell HX.out 2) HB1.out⟩
    go_wp2_with fail
    go_region_held3 (fun w' => w'.cell? ⟨H, 1, none⟩ = some u ∧ w'.cell? ⟨w.heap.size, 2, none⟩ = some (.int .u64 k)) (first | assumption | go_keep) (first
      | (go_at_call 33; refine (HREF.out w1.drew (blk_lt HH1.out) HV1.out).mono ?_; rintro e w2 ⟨⟨u', rfl, hu⟩, hb⟩; have HB2 := Aside0.mk (HBD1.out.trans (hb.mono HBD1.out.size)); have K2 : w2.cell? ⟨H, 1, none⟩ = some u ∧ w2.cell? ⟨w.heap.size, 2, none⟩ = some (.int .u64 k) := ⟨cb (blk_cell HH1.out 1) hb, cb (blk_cell HX1.out 2) hb⟩; have HH2 := Aside0.mk (blk_below HH1.out hb); have HV2 := Aside0.mk (Kd.V_below HV1.out hb); have HR2 := Aside0.mk (HR1.out.below hb); clear hb hu))
    clear K2 K1 HREF
    go_wp2_with fail
    go_ret
    exact ⟨rfl, by rw [HD.out]; exact ⟨P, u, HH2.out, HR2.out, HV2.out⟩, (Bel.of HB0.out).trans (Bel.of HB2.out)⟩
end Go.Proofs.Ytbiccahkniadfaa.H
