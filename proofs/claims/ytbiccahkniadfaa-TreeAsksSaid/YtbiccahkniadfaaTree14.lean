/- Held.do: a split, many puts, nothing: walked. -/
import Derived.Test.YtbiccahkniadfaaTree13
import Derived.Deep.RegionHeld3
namespace Go.Proofs.Ytbiccahkniadfaa.H
open Go.RowKit Go.Proofs.Ytbiccahkniadfaa.P Go.Proofs.YtbiccahkniadfaaW.PrintWords Go.Proofs.YtbiccahkniadfaaW.PrintLast Go.Proofs.YtbiccahkniadfaaW.PrintMore
set_option linter.unusedVariables false
set_option linter.unusedSimpArgs false
/-- A call of the document's Ceil. -/
theorem ref_ceil (k : Int) (t : T) (hf : Fit t) (A : Option Addr) (c : Nat) (w : World) (hc : Kd.C k50 w A (encT (toL t)).length (encT (toL t))) (hl : (encT (toL t)).length ≤ c) :
    Calls Try.prog 23 #[.slice A (encT (toL t)).length c, .int .u64 k] w fun e w' => e = .returned (.int .i64 (if (lowL k (toL t)).length = (encT (toL t)).length then (-1 : Int) else ((lowL k (toL t)).length : Int))) ∧ Below w.heap.size w w' := by
  have h1 := ceil_ev k (toL t) (by rw [toL_len]; have := hf.size; omega) hf.srt
  obtain ⟨n, hn⟩ := h1.rounds
  refine (waystoneref04_Ceil.calls n A c _ k _ w hc hl hn).mono ?_
  rintro e w' ⟨rfl, ⟨m, rfl⟩⟩
  exact ⟨by rw [encT_len], below_drewN (Below.refl _ _) m⟩
theorem Fit.cut {t : T} (h : Fit t) (k : Int) : Fit (cutT k t).1 ∧ Fit (cutT k t).2 := by
  have h1 := toL_cut k t h.srt
  have h2 := bal_cut k t h.bal
  have h3 := sz_cut k t
  have h4 := h.size
  exact ⟨⟨by unfold H.srt; rw [h1.1]; exact List.Pairwise.filter _ h.srt, h2.1, by omega⟩, ⟨by unfold H.srt; rw [h1.2]; exact List.Pairwise.filter _ h.srt, h2.2, by omega⟩⟩
theorem cut_enc (k : Int) (t : T) (h : srt t) : encT (toL (cutT k t).1) = (encT (toL t)).take (lowL k (toL t)).length ∧ encT (toL (cutT k t).2) = (encT (toL t)).drop (lowL k (toL t)).length := by
  have h1 := toL_cut k t h
  have h2 := parts k (toL t) h
  have h3 := (cut_list k (toL t) h).1
  refine ⟨by rw [enc_take, h2.1, h1.1]; rfl, ?_⟩
  rw [enc_drop, h1.2]
  congr 1
  generalize lowL k (toL t) = A at *
  generalize (toL t).filter (fun p => !decide (p.1 < k)) = B at *
  rw [h3, List.drop_left]
theorem V_take' {W : World} {ok : Nat → Prop} {A : Option Addr} {E E' : List S50} {m c : Nat} (h : Kd.F k50 W ok A E.length E) (he : E' = E.take m) (hm : m ≤ E.length) (hc : E.length ≤ c) : Kd.V k50 50 W 0 ok (.slice A m c) E' := by
  subst he
  have hl : (E.take m).length = m := by rw [List.length_take]; omega
  have := Kd.V_mk (e := 50) (base := 0) (c := c) (by omega) (Kd.F_take h hm)
  rwa [hl] at this
theorem V_drop' {W : World} {ok : Nat → Prop} {A : Option Addr} {E E' : List S50} {m c : Nat} (h : Kd.F k50 W ok A E.length E) (he : E' = E.drop m) (hm : m ≤ E.length) (hc : E.length ≤ c) : Kd.V k50 50 W 0 ok (.slice (if c = m then A else A.map (·.add (m * 2))) (E.length - m) (c - m)) E' := by
  subst he
  have hl : (E.drop m).length = E.length - m := List.length_drop ..
  have := Kd.V_mk (e := 50) (base := 0) (c := c - m) (by omega) (Kd.F_cut h hm hc)
  rwa [hl] at this
def splitT (low : Bool) (k : Int) (t : T) : T := if low then (cutT k t).1 else (cutT k t).2
set_option maxRecDepth 20000 in
set_option maxHeartbeats 4000000 in
theorem do3lp (H : Nat) (v k : Int) (t : T) (w : World) (h : HeldAt w H t) (hf : Fit t) (hfull : ¬ (lowL k (toL t)).length = (encT (toL t)).length) :
    Calls Try.prog 17 #[.pointer (some ⟨H, 0, none⟩), .agg #[.int .i64 3, .int .i64 v, .int .u64 k, .bool true]] w fun e w' => e = .returned (.bool true) ∧ HeldAt w' H (cutT k t).1 ∧ Bel H w w' := by
  have hb0 := (Below.refl w.heap.size w).alloc (Nat.le_refl _) (.cells #[.int .i64 3, .int .i64 v, .int .u64 k, .bool true] 42)
  have HB0 := Aside0.mk hb0
  have HX := Aside0.mk (blk_new w (.cells #[.int .i64 3, .int .i64 v, .int .u64 k, .bool true] 42))
  obtain ⟨P, u, hH, hr, A, c, rfl, hl, hF⟩ := h.below hb0
  have HR := Aside0.mk hr
  have HFF := Aside0.mk hF
  have HH := Aside0.mk hH
  have HF := Aside0.mk hf
  have HL := Aside0.mk hl
  have HCE := Aside0.mk (cut_enc k t hf.srt)
  have HSZ := Aside0.mk (sz_cut k t)
  have HENC := Aside0.mk ((encT_len (toL t)).trans (toL_len t))
  have hmn : (lowL k (toL t)).length ≤ (encT (toL t)).length := by rw [encT_len]; exact low_le k _
  have HCEIL := Aside0.mk (fun W hC => ref_ceil k t hf A c W hC hl)
  have HSPL := Aside0.mk (fun W hR => split_any P k t W hR (by have := hf.size; omega))
  rw [if_neg hfull] at HCEIL
  have HN9 := Aside0.mk (show (encT (toL t)).length ≤ 1024 from by rw [HENC.out]; exact hf.size)
  generalize hm : (lowL k (toL t)).length = m at *
  generalize hn : (encT (toL t)).length = n at *
  have HN := Aside0.mk hn
  have HM := Aside0.mk hm
  clear hb0 h hf hr hF hH hl hn hm
  clear hfull
  go_enter Try.func17, Try.ntmps17
  go_wp2_with fail
  generalize (w.alloc (.cells #[.int .i64 3, .int .i64 v, .int .u64 k, .bool true] 42)) = w0 at *
  have hc : w0.cell? ⟨H, 0, none⟩ = some (.pointer P) ∧ w0.cell? ⟨w.heap.size, 2, none⟩ = some (.int .u64 k) := ⟨blk_cell HH.out 0, blk_cell HX.out 2⟩
  have HBD := Aside0.mk (below_drew (Below.refl w0.heap.size w0))
  go_region_held3 (fun w' => w'.cell? ⟨H, 0, none⟩ = some (.pointer P) ∧ w'.cell? ⟨w.heap.size, 2, none⟩ = some (.int .u64 k)) (first | assumption | go_keep) (first
    | (go_at_call 25; refine (HSPL.out w0.drew (HR.out.below HBD.out)).mono ?_; rintro e w1 ⟨⟨x, y, rfl, hx, hy⟩, hb⟩; have HB1 := Aside0.mk (HBD.out.trans (hb.mono HBD.out.size)); have K1 : w1.cell? ⟨H, 0, none⟩ = some (.pointer P) ∧ w1.cell? ⟨w.heap.size, 2, none⟩ = some (.int .u64 k) := ⟨cb (blk_cell HH.out 0) HB1.out, cb (blk_cell HX.out 2) HB1.out⟩; have HGX := Aside0.mk hx; have HGY := Aside0.mk hy; clear hx hy hb))
  clear HSPL K1 hc
  have HBD1 := Aside0.mk (HB1.out.trans ((below_drew (Below.refl _ w1)).mono HB1.out.size))
  have HH1 := Aside0.mk (blk_below HH.out HBD1.out)
  have HX1 := Aside0.mk (blk_below HX.out HBD1.out)
  have HF1 := Aside0.mk (Kd.F_below HFF.out HBD1.out)
  have HGX1 := Aside0.mk (HGX.out.below (below_drew (Below.refl _ w1)))
  have HGY1 := Aside0.mk (HGY.out.below (below_drew (Below.refl _ w1)))
  have K1 : w1.cell? ⟨H, 1, none⟩ = some (.slice A n c) ∧ w1.cell? ⟨w.heap.size, 2, none⟩ = some (.int .u64 k) := ⟨cb (blk_cell HH.out 1) HB1.out, cb (blk_cell HX.out 2) HB1.out⟩
  go_wp2_with fail
  go_region_held3 (fun w' => w'.cell? ⟨H, 1, none⟩ = some (.slice A n c) ∧ w'.cell? ⟨w.heap.size, 2, none⟩ = some (.int .u64 k)) (first | assumption | go_keep) (first
    | (go_at_call 23; refine (HCEIL.out w1.drew (Kd.F_now HF1.out)).mono ?_; rintro e w2 ⟨rfl, hb⟩; have HB2 := Aside0.mk (HBD1.out.trans (hb.mono HBD1.out.size)); have K2 : w2.cell? ⟨H, 1, none⟩ = some (.slice A n c) ∧ w2.cell? ⟨w.heap.size, 2, none⟩ = some (.int .u64 k) := ⟨cb (blk_cell HH1.out 1) hb, cb (blk_cell HX1.out 2) hb⟩; have HH2 := Aside0.mk (blk_below HH1.out hb); have HX2 := Aside0.mk (blk_below HX1.out hb); have HF2 := Aside0.mk (Kd.F_below HF1.out hb); have HGX2 := Aside0.mk (HGX1.out.below hb); have HGY2 := Aside0.mk (HGY1.out.below hb); clear hb))
  clear K2 K1 HCEIL
  have k0 := blk_cell HH2.out 0
  have k1 := blk_cell HH2.out 1
  have f0 := blk_frozen HH2.out 0
  have f1 := blk_frozen HH2.out 1
  have k3 := blk_cell HX2.out 3
  obtain ⟨i0, hi0, _, hsz0, _⟩ := info_parts info50
  have hcut := cut_to (P := Try.prog) 37 50 .i64 Try.underlying37 hi0 A n c (m : Int) (by omega) (by omega) HL.out
  clear hi0 hsz0
  skip
  go_wp2_with fail
  have m1 := blk_set (blk_set HH2.out 0 (.pointer (some ⟨x, 0, none⟩))) 1 (.slice A m c)
  have hk : KeepBut w2 ((w2.setCell ⟨H, 0, none⟩ (.pointer (some ⟨x, 0, none⟩))).setCell ⟨H, 1, none⟩ (.slice A m c)) H none := ((KeepBut.refl _ _ _).set_ 0 _).set_ 1 _
  have HX3 := Aside0.mk (HGX2.out.keep HH2.out hk)
  have HY3 := Aside0.mk (HGY2.out.keep HH2.out hk)
  have HF3 := Aside0.mk (Kd.F_keep HF2.out hk (fun _ h => h))
  have HB3 := Aside0.mk ((((Bel.of (H := H) HB0.out).trans (Bel.of HB2.out)).set 0 (.pointer (some ⟨x, 0, none⟩))).set 1 (.slice A m c))
  have HM1 := Aside0.mk m1
  clear m1 hk
  generalize ((w2.setCell ⟨H, 0, none⟩ (.pointer (some ⟨x, 0, none⟩))).setCell ⟨H, 1, none⟩ (.slice A m c)) = w3 at *
  clear k0 k1 f0 f1 k3 hcut
  have j1 := blk_cell HM1.out 1
  have HL1 := Aside0.mk (len_any _ _ w3.drew (HX3.out.below (below_drew (Below.refl _ w3))))
  have HL2 := Aside0.mk (len_any _ _ w3.drew (HY3.out.below (below_drew (Below.refl _ w3))))
  have hsum : ((sz (cutT k t).1 : Nat) : Int) + ((sz (cutT k t).2 : Nat) : Int) = (n : Int) := by have := HSZ.out; have := HENC.out; omega
  have HN4 := HN9
  have hw : IntKind.i64.wrap (((sz (cutT k t).1 : Nat) : Int) + ((sz (cutT k t).2 : Nat) : Int)) = (n : Int) := by rw [hsum, IntKind.wrap_i64]; have := HN4.out; omega
  have hge : (m : Int) ≤ (n : Int) := by omega
  generalize ((sz (cutT k t).1 : Nat) : Int) = z1 at *
  generalize ((sz (cutT k t).2 : Nat) : Int) = z2 at *
  clear hsum
  go_region_held3 (fun w' => w'.cell? ⟨H, 1, none⟩ = some (.slice A m c)) (first | assumption | go_keep) (first
    | (go_at_call 14; refine HL1.out.mono ?_; rintro e w4 ⟨rfl, rfl⟩)
    | (go_at_call 14; refine HL2.out.mono ?_; rintro e w4 ⟨rfl, rfl⟩))
  go_wp2_with fail
  go_ret
  exact ⟨rfl, ⟨_, _, blk_drew HM1.out, HX3.out.below (below_drew (Below.refl _ w3)), Kd.V_drew (V_take' (by rw [HN.out]; exact HF3.out) HCE.out.1 (by rw [HN.out]; exact hmn) (by rw [HN.out]; exact HL.out))⟩, HB3.out.trans (Bel.of (below_drew (Below.refl _ w3)))⟩
set_option maxRecDepth 20000 in
set_option maxHeartbeats 4000000 in
theorem do3lf (H : Nat) (v k : Int) (t : T) (w : World) (h : HeldAt w H t) (hf : Fit t) (hfull : (lowL k (toL t)).length = (encT (toL t)).length) :
    Calls Try.prog 17 #[.pointer (some ⟨H, 0, none⟩), .agg #[.int .i64 3, .int .i64 v, .int .u64 k, .bool true]] w fun e w' => e = .returned (.bool true) ∧ HeldAt w' H (cutT k t).1 ∧ Bel H w w' := by
  have hb0 := (Below.refl w.heap.size w).alloc (Nat.le_refl _) (.cells #[.int .i64 3, .int .i64 v, .int .u64 k, .bool true] 42)
  have HB0 := Aside0.mk hb0
  have HX := Aside0.mk (blk_new w (.cells #[.int .i64 3, .int .i64 v, .int .u64 k, .bool true] 42))
  obtain ⟨P, u, hH, hr, A, c, rfl, hl, hF⟩ := h.below hb0
  have HR := Aside0.mk hr
  have HFF := Aside0.mk hF
  have HH := Aside0.mk hH
  have HF := Aside0.mk hf
  have HL := Aside0.mk hl
  have HCE := Aside0.mk (cut_enc k t hf.srt)
  have HSZ := Aside0.mk (sz_cut k t)
  have HENC := Aside0.mk ((encT_len (toL t)).trans (toL_len t))
  have hmn : (lowL k (toL t)).length ≤ (encT (toL t)).length := by rw [encT_len]; exact low_le k _
  have HCEIL := Aside0.mk (fun W hC => ref_ceil k t hf A c W hC hl)
  have HSPL := Aside0.mk (fun W hR => split_any P k t W hR (by have := hf.size; omega))
  rw [if_pos hfull] at HCEIL
  have HN9 := Aside0.mk (show (encT (toL t)).length ≤ 1024 from by rw [HENC.out]; exact hf.size)
  generalize hm : (lowL k (toL t)).length = m at *
  generalize hn : (encT (toL t)).length = n at *
  have HN := Aside0.mk hn
  have HM := Aside0.mk hm
  clear hb0 h hf hr hF hH hl hn hm
  obtain rfl : m = n := hfull
  clear hmn
  have hmn : m ≤ m := Nat.le_refl _
  go_enter Try.func17, Try.ntmps17
  go_wp2_with fail
  generalize (w.alloc (.cells #[.int .i64 3, .int .i64 v, .int .u64 k, .bool true] 42)) = w0 at *
  have hc : w0.cell? ⟨H, 0, none⟩ = some (.pointer P) ∧ w0.cell? ⟨w.heap.size, 2, none⟩ = some (.int .u64 k) := ⟨blk_cell HH.out 0, blk_cell HX.out 2⟩
  have HBD := Aside0.mk (below_drew (Below.refl w0.heap.size w0))
  go_region_held3 (fun w' => w'.cell? ⟨H, 0, none⟩ = some (.pointer P) ∧ w'.cell? ⟨w.heap.size, 2, none⟩ = some (.int .u64 k)) (first | assumption | go_keep) (first
    | (go_at_call 25; refine (HSPL.out w0.drew (HR.out.below HBD.out)).mono ?_; rintro e w1 ⟨⟨x, y, rfl, hx, hy⟩, hb⟩; have HB1 := Aside0.mk (HBD.out.trans (hb.mono HBD.out.size)); have K1 : w1.cell? ⟨H, 0, none⟩ = some (.pointer P) ∧ w1.cell? ⟨w.heap.size, 2, none⟩ = some (.int .u64 k) := ⟨cb (blk_cell HH.out 0) HB1.out, cb (blk_cell HX.out 2) HB1.out⟩; have HGX := Aside0.mk hx; have HGY := Aside0.mk hy; clear hx hy hb))
  clear HSPL K1 hc
  have HBD1 := Aside0.mk (HB1.out.trans ((below_drew (Below.refl _ w1)).mono HB1.out.size))
  have HH1 := Aside0.mk (blk_below HH.out HBD1.out)
  have HX1 := Aside0.mk (blk_below HX.out HBD1.out)
  have HF1 := Aside0.mk (Kd.F_below HFF.out HBD1.out)
  have HGX1 := Aside0.mk (HGX.out.below (below_drew (Below.refl _ w1)))
  have HGY1 := Aside0.mk (HGY.out.below (below_drew (Below.refl _ w1)))
  have K1 : w1.cell? ⟨H, 1, none⟩ = some (.slice A m c) ∧ w1.cell? ⟨w.heap.size, 2, none⟩ = some (.int .u64 k) := ⟨cb (blk_cell HH.out 1) HB1.out, cb (blk_cell HX.out 2) HB1.out⟩
  go_wp2_with fail
  go_region_held3 (fun w' => w'.cell? ⟨H, 1, none⟩ = some (.slice A m c) ∧ w'.cell? ⟨w.heap.size, 2, none⟩ = some (.int .u64 k)) (first | assumption | go_keep) (first
    | (go_at_call 23; refine (HCEIL.out w1.drew (Kd.F_now HF1.out)).mono ?_; rintro e w2 ⟨rfl, hb⟩; have HB2 := Aside0.mk (HBD1.out.trans (hb.mono HBD1.out.size)); have K2 : w2.cell? ⟨H, 1, none⟩ = some (.slice A m c) ∧ w2.cell? ⟨w.heap.size, 2, none⟩ = some (.int .u64 k) := ⟨cb (blk_cell HH1.out 1) hb, cb (blk_cell HX1.out 2) hb⟩; have HH2 := Aside0.mk (blk_below HH1.out hb); have HX2 := Aside0.mk (blk_below HX1.out hb); have HF2 := Aside0.mk (Kd.F_below HF1.out hb); have HGX2 := Aside0.mk (HGX1.out.below hb); have HGY2 := Aside0.mk (HGY1.out.below hb); clear hb))
  clear K2 K1 HCEIL
  have k0 := blk_cell HH2.out 0
  have k1 := blk_cell HH2.out 1
  have f0 := blk_frozen HH2.out 0
  have f1 := blk_frozen HH2.out 1
  have k3 := blk_cell HX2.out 3
  obtain ⟨i0, hi0, _, hsz0, _⟩ := info_parts info50
  have hcut := cut_to (P := Try.prog) 37 50 .i64 Try.underlying37 hi0 A m c (m : Int) (by omega) (by omega) HL.out
  clear hi0 hsz0
  skip
  go_wp2_with fail
  have m1 := blk_set (blk_set HH2.out 0 (.pointer (some ⟨x, 0, none⟩))) 1 (.slice A m c)
  have hk : KeepBut w2 ((w2.setCell ⟨H, 0, none⟩ (.pointer (some ⟨x, 0, none⟩))).setCell ⟨H, 1, none⟩ (.slice A m c)) H none := ((KeepBut.refl _ _ _).set_ 0 _).set_ 1 _
  have HX3 := Aside0.mk (HGX2.out.keep HH2.out hk)
  have HY3 := Aside0.mk (HGY2.out.keep HH2.out hk)
  have HF3 := Aside0.mk (Kd.F_keep HF2.out hk (fun _ h => h))
  have HB3 := Aside0.mk ((((Bel.of (H := H) HB0.out).trans (Bel.of HB2.out)).set 0 (.pointer (some ⟨x, 0, none⟩))).set 1 (.slice A m c))
  have HM1 := Aside0.mk m1
  clear m1 hk
  generalize ((w2.setCell ⟨H, 0, none⟩ (.pointer (some ⟨x, 0, none⟩))).setCell ⟨H, 1, none⟩ (.slice A m c)) = w3 at *
  clear k0 k1 f0 f1 k3 hcut
  have j1 := blk_cell HM1.out 1
  have HL1 := Aside0.mk (len_any _ _ w3.drew (HX3.out.below (below_drew (Below.refl _ w3))))
  have HL2 := Aside0.mk (len_any _ _ w3.drew (HY3.out.below (below_drew (Below.refl _ w3))))
  have hsum : ((sz (cutT k t).1 : Nat) : Int) + ((sz (cutT k t).2 : Nat) : Int) = (m : Int) := by have := HSZ.out; have := HENC.out; omega
  have HN4 := HN9
  have hw : IntKind.i64.wrap (((sz (cutT k t).1 : Nat) : Int) + ((sz (cutT k t).2 : Nat) : Int)) = (m : Int) := by rw [hsum, IntKind.wrap_i64]; have := HN4.out; omega
  have hge : (m : Int) ≤ (m : Int) := by omega
  generalize ((sz (cutT k t).1 : Nat) : Int) = z1 at *
  generalize ((sz (cutT k t).2 : Nat) : Int) = z2 at *
  clear hsum
  go_region_held3 (fun w' => w'.cell? ⟨H, 1, none⟩ = some (.slice A m c)) (first | assumption | go_keep) (first
    | (go_at_call 14; refine HL1.out.mono ?_; rintro e w4 ⟨rfl, rfl⟩)
    | (go_at_call 14; refine HL2.out.mono ?_; rintro e w4 ⟨rfl, rfl⟩))
  go_wp2_with fail
  go_ret
  exact ⟨rfl, ⟨_, _, blk_drew HM1.out, HX3.out.below (below_drew (Below.refl _ w3)), Kd.V_drew (V_take' (by rw [HN.out]; exact HF3.out) HCE.out.1 (by rw [HN.out]; exact hmn) (by rw [HN.out]; exact HL.out))⟩, HB3.out.trans (Bel.of (below_drew (Below.refl _ w3)))⟩
set_option maxRecDepth 20000 in
set_option maxHeartbeats 4000000 in
theorem do3hp (H : Nat) (v k : Int) (t : T) (w : World) (h : HeldAt w H t) (hf : Fit t) (hfull : ¬ (lowL k (toL t)).length = (encT (toL t)).length) :
    Calls Try.prog 17 #[.pointer (some ⟨H, 0, none⟩), .agg #[.int .i64 3, .int .i64 v, .int .u64 k, .bool false]] w fun e w' => e = .returned (.bool true) ∧ HeldAt w' H (cutT k t).2 ∧ Bel H w w' := by
  have hb0 := (Below.refl w.heap.size w).alloc (Nat.le_refl _) (.cells #[.int .i64 3, .int .i64 v, .int .u64 k, .bool false] 42)
  have HB0 := Aside0.mk hb0
  have HX := Aside0.mk (blk_new w (.cells #[.int .i64 3, .int .i64 v, .int .u64 k, .bool false] 42))
  obtain ⟨P, u, hH, hr, A, c, rfl, hl, hF⟩ := h.below hb0
  have HR := Aside0.mk hr
  have HFF := Aside0.mk hF
  have HH := Aside0.mk hH
  have HF := Aside0.mk hf
  have HL := Aside0.mk hl
  have HCE := Aside0.mk (cut_enc k t hf.srt)
  have HSZ := Aside0.mk (sz_cut k t)
  have HENC := Aside0.mk ((encT_len (toL t)).trans (toL_len t))
  have hmn : (lowL k (toL t)).length ≤ (encT (toL t)).length := by rw [encT_len]; exact low_le k _
  have HCEIL := Aside0.mk (fun W hC => ref_ceil k t hf A c W hC hl)
  have HSPL := Aside0.mk (fun W hR => split_any P k t W hR (by have := hf.size; omega))
  rw [if_neg hfull] at HCEIL
  have HN9 := Aside0.mk (show (encT (toL t)).length ≤ 1024 from by rw [HENC.out]; exact hf.size)
  generalize hm : (lowL k (toL t)).length = m at *
  generalize hn : (encT (toL t)).length = n at *
  have HN := Aside0.mk hn
  have HM := Aside0.mk hm
  clear hb0 h hf hr hF hH hl hn hm
  clear hfull
  go_enter Try.func17, Try.ntmps17
  go_wp2_with fail
  generalize (w.alloc (.cells #[.int .i64 3, .int .i64 v, .int .u64 k, .bool false] 42)) = w0 at *
  have hc : w0.cell? ⟨H, 0, none⟩ = some (.pointer P) ∧ w0.cell? ⟨w.heap.size, 2, none⟩ = some (.int .u64 k) := ⟨blk_cell HH.out 0, blk_cell HX.out 2⟩
  have HBD := Aside0.mk (below_drew (Below.refl w0.heap.size w0))
  go_region_held3 (fun w' => w'.cell? ⟨H, 0, none⟩ = some (.pointer P) ∧ w'.cell? ⟨w.heap.size, 2, none⟩ = some (.int .u64 k)) (first | assumption | go_keep) (first
    | (go_at_call 25; refine (HSPL.out w0.drew (HR.out.below HBD.out)).mono ?_; rintro e w1 ⟨⟨x, y, rfl, hx, hy⟩, hb⟩; have HB1 := Aside0.mk (HBD.out.trans (hb.mono HBD.out.size)); have K1 : w1.cell? ⟨H, 0, none⟩ = some (.pointer P) ∧ w1.cell? ⟨w.heap.size, 2, none⟩ = some (.int .u64 k) := ⟨cb (blk_cell HH.out 0) HB1.out, cb (blk_cell HX.out 2) HB1.out⟩; have HGX := Aside0.mk hx; have HGY := Aside0.mk hy; clear hx hy hb))
  clear HSPL K1 hc
  have HBD1 := Aside0.mk (HB1.out.trans ((below_drew (Below.refl _ w1)).mono HB1.out.size))
  have HH1 := Aside0.mk (blk_below HH.out HBD1.out)
  have HX1 := Aside0.mk (blk_below HX.out HBD1.out)
  have HF1 := Aside0.mk (Kd.F_below HFF.out HBD1.out)
  have HGX1 := Aside0.mk (HGX.out.below (below_drew (Below.refl _ w1)))
  have HGY1 := Aside0.mk (HGY.out.below (below_drew (Below.refl _ w1)))
  have K1 : w1.cell? ⟨H, 1, none⟩ = some (.slice A n c) ∧ w1.cell? ⟨w.heap.size, 2, none⟩ = some (.int .u64 k) := ⟨cb (blk_cell HH.out 1) HB1.out, cb (blk_cell HX.out 2) HB1.out⟩
  go_wp2_with fail
  go_region_held3 (fun w' => w'.cell? ⟨H, 1, none⟩ = some (.slice A n c) ∧ w'.cell? ⟨w.heap.size, 2, none⟩ = some (.int .u64 k)) (first | assumption | go_keep) (first
    | (go_at_call 23; refine (HCEIL.out w1.drew (Kd.F_now HF1.out)).mono ?_; rintro e w2 ⟨rfl, hb⟩; have HB2 := Aside0.mk (HBD1.out.trans (hb.mono HBD1.out.size)); have K2 : w2.cell? ⟨H, 1, none⟩ = some (.slice A n c) ∧ w2.cell? ⟨w.heap.size, 2, none⟩ = some (.int .u64 k) := ⟨cb (blk_cell HH1.out 1) hb, cb (blk_cell HX1.out 2) hb⟩; have HH2 := Aside0.mk (blk_below HH1.out hb); have HX2 := Aside0.mk (blk_below HX1.out hb); have HF2 := Aside0.mk (Kd.F_below HF1.out hb); have HGX2 := Aside0.mk (HGX1.out.below hb); have HGY2 := Aside0.mk (HGY1.out.below hb); clear hb))
  clear K2 K1 HCEIL
  have k0 := blk_cell HH2.out 0
  have k1 := blk_cell HH2.out 1
  have f0 := blk_frozen HH2.out 0
  have f1 := blk_frozen HH2.out 1
  have k3 := blk_cell HX2.out 3
  obtain ⟨i0, hi0, _, hsz0, _⟩ := info_parts info50
  have hcut := cut_from (P := Try.prog) 37 50 .i64 Try.underlying37 hi0 2 hsz0 A n c (m : Int) (by omega) (by omega)
  clear hi0 hsz0
  obtain ⟨A2, hA2⟩ : ∃ A2, A2 = (if c = (m : Int).toNat then A else A.map (·.add ((m : Int).toNat * 2))) := ⟨_, rfl⟩
  rw [← hA2] at hcut
  have HA2 := Aside0.mk hA2
  clear hA2
  go_wp2_with fail
  have m1 := blk_set (blk_set HH2.out 0 (.pointer (some ⟨y, 0, none⟩))) 1 (.slice A2 (n - m) (c - m))
  have hk : KeepBut w2 ((w2.setCell ⟨H, 0, none⟩ (.pointer (some ⟨y, 0, none⟩))).setCell ⟨H, 1, none⟩ (.slice A2 (n - m) (c - m))) H none := ((KeepBut.refl _ _ _).set_ 0 _).set_ 1 _
  have HX3 := Aside0.mk (HGX2.out.keep HH2.out hk)
  have HY3 := Aside0.mk (HGY2.out.keep HH2.out hk)
  have HF3 := Aside0.mk (Kd.F_keep HF2.out hk (fun _ h => h))
  have HB3 := Aside0.mk ((((Bel.of (H := H) HB0.out).trans (Bel.of HB2.out)).set 0 (.pointer (some ⟨y, 0, none⟩))).set 1 (.slice A2 (n - m) (c - m)))
  have HM1 := Aside0.mk m1
  clear m1 hk
  generalize ((w2.setCell ⟨H, 0, none⟩ (.pointer (some ⟨y, 0, none⟩))).setCell ⟨H, 1, none⟩ (.slice A2 (n - m) (c - m))) = w3 at *
  clear k0 k1 f0 f1 k3 hcut
  have j1 := blk_cell HM1.out 1
  have HL1 := Aside0.mk (len_any _ _ w3.drew (HX3.out.below (below_drew (Below.refl _ w3))))
  have HL2 := Aside0.mk (len_any _ _ w3.drew (HY3.out.below (below_drew (Below.refl _ w3))))
  have hsum : ((sz (cutT k t).1 : Nat) : Int) + ((sz (cutT k t).2 : Nat) : Int) = (n : Int) := by have := HSZ.out; have := HENC.out; omega
  have HN4 := HN9
  have hw : IntKind.i64.wrap (((sz (cutT k t).1 : Nat) : Int) + ((sz (cutT k t).2 : Nat) : Int)) = (n : Int) := by rw [hsum, IntKind.wrap_i64]; have := HN4.out; omega
  have hge : ((n - m : Nat) : Int) ≤ (n : Int) := by omega
  generalize ((sz (cutT k t).1 : Nat) : Int) = z1 at *
  generalize ((sz (cutT k t).2 : Nat) : Int) = z2 at *
  clear hsum
  go_region_held3 (fun w' => w'.cell? ⟨H, 1, none⟩ = some (.slice A2 (n - m) (c - m))) (first | assumption | go_keep) (first
    | (go_at_call 14; refine HL1.out.mono ?_; rintro e w4 ⟨rfl, rfl⟩)
    | (go_at_call 14; refine HL2.out.mono ?_; rintro e w4 ⟨rfl, rfl⟩))
  go_wp2_with fail
  go_ret
  exact ⟨rfl, ⟨_, _, blk_drew HM1.out, HY3.out.below (below_drew (Below.refl _ w3)), Kd.V_drew (by have h1 := V_drop' (c := c) (by rw [HN.out]; exact HF3.out) HCE.out.2 (by rw [HN.out]; exact hmn) (by rw [HN.out]; exact HL.out); rw [HN.out] at h1; rw [HA2.out, Int.toNat_natCast]; exact h1)⟩, HB3.out.trans (Bel.of (below_drew (Below.refl _ w3)))⟩
set_option maxRecDepth 20000 in
set_option maxHeartbeats 4000000 in
theorem do3hf (H : Nat) (v k : Int) (t : T) (w : World) (h : HeldAt w H t) (hf : Fit t) (hfull : (lowL k (toL t)).length = (encT (toL t)).length) :
    Calls Try.prog 17 #[.pointer (some ⟨H, 0, none⟩), .agg #[.int .i64 3, .int .i64 v, .int .u64 k, .bool false]] w fun e w' => e = .returned (.bool true) ∧ HeldAt w' H (cutT k t).2 ∧ Bel H w w' := by
  have hb0 := (Below.refl w.heap.size w).alloc (Nat.le_refl _) (.cells #[.int .i64 3, .int .i64 v, .int .u64 k, .bool false] 42)
  have HB0 := Aside0.mk hb0
  have HX := Aside0.mk (blk_new w (.cells #[.int .i64 3, .int .i64 v, .int .u64 k, .bool false] 42))
  obtain ⟨P, u, hH, hr, A, c, rfl, hl, hF⟩ := h.below hb0
  have HR := Aside0.mk hr
  have HFF := Aside0.mk hF
  have HH := Aside0.mk hH
  have HF := Aside0.mk hf
  have HL := Aside0.mk hl
  have HCE := Aside0.mk (cut_enc k t hf.srt)
  have HSZ := Aside0.mk (sz_cut k t)
  have HENC := Aside0.mk ((encT_len (toL t)).trans (toL_len t))
  have hmn : (lowL k (toL t)).length ≤ (encT (toL t)).length := by rw [encT_len]; exact low_le k _
  have HCEIL := Aside0.mk (fun W hC => ref_ceil k t hf A c W hC hl)
  have HSPL := Aside0.mk (fun W hR => split_any P k t W hR (by have := hf.size; omega))
  rw [if_pos hfull] at HCEIL
  have HN9 := Aside0.mk (show (encT (toL t)).length ≤ 1024 from by rw [HENC.out]; exact hf.size)
  generalize hm : (lowL k (toL t)).length = m at *
  generalize hn : (encT (toL t)).length = n at *
  have HN := Aside0.mk hn
  have HM := Aside0.mk hm
  clear hb0 h hf hr hF hH hl hn hm
  obtain rfl : m = n := hfull
  clear hmn
  have hmn : m ≤ m := Nat.le_refl _
  go_enter Try.func17, Try.ntmps17
  go_wp2_with fail
  generalize (w.alloc (.cells #[.int .i64 3, .int .i64 v, .int .u64 k, .bool false] 42)) = w0 at *
  have hc : w0.cell? ⟨H, 0, none⟩ = some (.pointer P) ∧ w0.cell? ⟨w.heap.size, 2, none⟩ = some (.int .u64 k) := ⟨blk_cell HH.out 0, blk_cell HX.out 2⟩
  have HBD := Aside0.mk (below_drew (Below.refl w0.heap.size w0))
  go_region_held3 (fun w' => w'.cell? ⟨H, 0, none⟩ = some (.pointer P) ∧ w'.cell? ⟨w.heap.size, 2, none⟩ = some (.int .u64 k)) (first | assumption | go_keep) (first
    | (go_at_call 25; refine (HSPL.out w0.drew (HR.out.below HBD.out)).mono ?_; rintro e w1 ⟨⟨x, y, rfl, hx, hy⟩, hb⟩; have HB1 := Aside0.mk (HBD.out.trans (hb.mono HBD.out.size)); have K1 : w1.cell? ⟨H, 0, none⟩ = some (.pointer P) ∧ w1.cell? ⟨w.heap.size, 2, none⟩ = some (.int .u64 k) := ⟨cb (blk_cell HH.out 0) HB1.out, cb (blk_cell HX.out 2) HB1.out⟩; have HGX := Aside0.mk hx; have HGY := Aside0.mk hy; clear hx hy hb))
  clear HSPL K1 hc
  have HBD1 := Aside0.mk (HB1.out.trans ((below_drew (Below.refl _ w1)).mono HB1.out.size))
  have HH1 := Aside0.mk (blk_below HH.out HBD1.out)
  have HX1 := Aside0.mk (blk_below HX.out HBD1.out)
  have HF1 := Aside0.mk (Kd.F_below HFF.out HBD1.out)
  have HGX1 := Aside0.mk (HGX.out.below (below_drew (Below.refl _ w1)))
  have HGY1 := Aside0.mk (HGY.out.below (below_drew (Below.refl _ w1)))
  have K1 : w1.cell? ⟨H, 1, none⟩ = some (.slice A m c) ∧ w1.cell? ⟨w.heap.size, 2, none⟩ = some (.int .u64 k) := ⟨cb (blk_cell HH.out 1) HB1.out, cb (blk_cell HX.out 2) HB1.out⟩
  go_wp2_with fail
  go_region_held3 (fun w' => w'.cell? ⟨H, 1, none⟩ = some (.slice A m c) ∧ w'.cell? ⟨w.heap.size, 2, none⟩ = some (.int .u64 k)) (first | assumption | go_keep) (first
    | (go_at_call 23; refine (HCEIL.out w1.drew (Kd.F_now HF1.out)).mono ?_; rintro e w2 ⟨rfl, hb⟩; have HB2 := Aside0.mk (HBD1.out.trans (hb.mono HBD1.out.size)); have K2 : w2.cell? ⟨H, 1, none⟩ = some (.slice A m c) ∧ w2.cell? ⟨w.heap.size, 2, none⟩ = some (.int .u64 k) := ⟨cb (blk_cell HH1.out 1) hb, cb (blk_cell HX1.out 2) hb⟩; have HH2 := Aside0.mk (blk_below HH1.out hb); have HX2 := Aside0.mk (blk_below HX1.out hb); have HF2 := Aside0.mk (Kd.F_below HF1.out hb); have HGX2 := Aside0.mk (HGX1.out.below hb); have HGY2 := Aside0.mk (HGY1.out.below hb); clear hb))
  clear K2 K1 HCEIL
  have k0 := blk_cell HH2.out 0
  have k1 := blk_cell HH2.out 1
  have f0 := blk_frozen HH2.out 0
  have f1 := blk_frozen HH2.out 1
  have k3 := blk_cell HX2.out 3
  obtain ⟨i0, hi0, _, hsz0, _⟩ := info_parts info50
  have hcut := cut_from (P := Try.prog) 37 50 .i64 Try.underlying37 hi0 2 hsz0 A m c (m : Int) (by omega) (by omega)
  clear hi0 hsz0
  obtain ⟨A2, hA2⟩ : ∃ A2, A2 = (if c = (m : Int).toNat then A else A.map (·.add ((m : Int).toNat * 2))) := ⟨_, rfl⟩
  rw [← hA2] at hcut
  have HA2 := Aside0.mk hA2
  clear hA2
  go_wp2_with fail
  have m1 := blk_set (blk_set HH2.out 0 (.pointer (some ⟨y, 0, none⟩))) 1 (.slice A2 0 (c - m))
  have hk : KeepBut w2 ((w2.setCell ⟨H, 0, none⟩ (.pointer (some ⟨y, 0, none⟩))).setCell ⟨H, 1, none⟩ (.slice A2 0 (c - m))) H none := ((KeepBut.refl _ _ _).set_ 0 _).set_ 1 _
  have HX3 := Aside0.mk (HGX2.out.keep HH2.out hk)
  have HY3 := Aside0.mk (HGY2.out.keep HH2.out hk)
  have HF3 := Aside0.mk (Kd.F_keep HF2.out hk (fun _ h => h))
  have HB3 := Aside0.mk ((((Bel.of (H := H) HB0.out).trans (Bel.of HB2.out)).set 0 (.pointer (some ⟨y, 0, none⟩))).set 1 (.slice A2 0 (c - m)))
  have HM1 := Aside0.mk m1
  clear m1 hk
  generalize ((w2.setCell ⟨H, 0, none⟩ (.pointer (some ⟨y, 0, none⟩))).setCell ⟨H, 1, none⟩ (.slice A2 0 (c - m))) = w3 at *
  clear k0 k1 f0 f1 k3 hcut
  have j1 := blk_cell HM1.out 1
  have HL1 := Aside0.mk (len_any _ _ w3.drew (HX3.out.below (below_drew (Below.refl _ w3))))
  have HL2 := Aside0.mk (len_any _ _ w3.drew (HY3.out.below (below_drew (Below.refl _ w3))))
  have hsum : ((sz (cutT k t).1 : Nat) : Int) + ((sz (cutT k t).2 : Nat) : Int) = (m : Int) := by have := HSZ.out; have := HENC.out; omega
  have HN4 := HN9
  have hw : IntKind.i64.wrap (((sz (cutT k t).1 : Nat) : Int) + ((sz (cutT k t).2 : Nat) : Int)) = (m : Int) := by rw [hsum, IntKind.wrap_i64]; have := HN4.out; omega
  have hge : (0 : Int) ≤ (m : Int) := by omega
  generalize ((sz (cutT k t).1 : Nat) : Int) = z1 at *
  generalize ((sz (cutT k t).2 : Nat) : Int) = z2 at *
  clear hsum
  go_region_held3 (fun w' => w'.cell? ⟨H, 1, none⟩ = some (.slice A2 0 (c - m))) (first | assumption | go_keep) (first
    | (go_at_call 14; refine HL1.out.mono ?_; rintro e w4 ⟨rfl, rfl⟩)
    | (go_at_call 14; refine HL2.out.mono ?_; rintro e w4 ⟨rfl, rfl⟩))
  go_wp2_with fail
  go_ret
  exact ⟨rfl, ⟨_, _, blk_drew HM1.out, HY3.out.below (below_drew (Below.refl _ w3)), Kd.V_drew (by have h1 := V_drop' (c := c) (by rw [HN.out]; exact HF3.out) HCE.out.2 (by rw [HN.out]; exact hmn) (by rw [HN.out]; exact HL.out); rw [HN.out, Nat.sub_self] at h1; rw [HA2.out, Int.toNat_natCast]; exact h1)⟩, HB3.out.trans (Bel.of (below_drew (Below.refl _ w3)))⟩
end Go.Proofs.Ytbiccahkniadfaa.H
