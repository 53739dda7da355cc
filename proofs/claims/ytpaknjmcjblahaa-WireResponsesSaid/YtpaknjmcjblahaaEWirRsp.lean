/- WirRsp. -/
import Derived.Test.YtpaknjmcjblahaaEWirN
import Derived.Test.YtpaknjmcjblahaaEWirO
import Derived.Test.YtpaknjmcjblahaaEPx7
import Derived.Test.YtpaknjmcjblahaaENumW1
import Derived.Deep.RegionHeld3
namespace Go.Proofs.Ytpaknjmcjblahaa.H
open Go.RowKit Go.Proofs.Ytpaknjmcjblahaa.P Go.Proofs.YtpaknjmcjblahaaW.PrintWords Go.Proofs.YtpaknjmcjblahaaW.PrintLast Go.Proofs.YtpaknjmcjblahaaW.PrintMore
set_option linter.unusedVariables false
set_option linter.unusedSimpArgs false
set_option maxRecDepth 20000
theorem read_len {l : List Int} (hb : bytes l) : (readOut l).1.ids.length ≤ 1000000 ∧ (readOut l).1.rules.length ≤ 1000000 ∧ (readOut l).1.dv.length ≤ 1000000 := by
  unfold readOut
  by_cases h : (readM l).2.bad = true ∨ 0 < (readM l).2.rest.length
  · rw [if_pos h]; exact ⟨by decide, by decide, by decide⟩
  · rw [if_neg h]
    have hbad : (readM l).2.bad = false := by
      cases e : (readM l).2.bad
      · rfl
      · exact absurd (.inl e) h
    have F := (readM_back hb hbad).1
    have l1 := F.l1
    have l2 := F.l2
    have l3 := F.l3
    exact ⟨Nat.le_trans l1 (by decide), Nat.le_trans l2 (by decide), Nat.le_trans l3 (by decide)⟩
theorem sz2 (n : Nat) (h : ¬ 2000 < (n : Int)) : n < 140737488355328 := by omega
theorem fits_len {r : Rs} (h : fitsB zRq r = true) : r.ids.length ≤ 1000000 ∧ r.rules.length ≤ 1000000 ∧ r.dv.length ≤ 1000000 := by
  unfold fitsB at h
  simp only [Bool.and_eq_true, decide_eq_true_eq] at h
  obtain ⟨_, _, a, b, c⟩ := h
  exact ⟨by omega, by omega, by omega⟩
theorem rans_any (r : Rs) (A2 : Option Addr) (c2 : Nat) (A3 : Option Addr) (c3 : Nat) (A7 : Option Addr) (c7 : Nat) (w : World) (h2 : Kd.C (Kd.int .i64) w A2 r.ids.length r.ids) (g2 : r.ids.length ≤ c2) (h3 : Kd.C k29 w A3 r.rules.length r.rules) (g3 : r.rules.length ≤ c3) (h7 : Kd.C (Kd.int .i64) w A7 r.dv.length r.dv) (g7 : r.dv.length ≤ c7) (hu : okRs r) (q1 : r.ids.length ≤ 1000000) (q2 : r.rules.length ≤ 1000000) (q3 : r.dv.length ≤ 1000000) :
    Calls Try.prog 18 #[.agg (rsVals (.slice A2 r.ids.length c2) (.slice A3 r.rules.length c3) (.slice A7 r.dv.length c7) r).toArray] w fun e w' => (∃ v, e = .returned (.tuple #[v, .int .i64 (ansOut r).2]) ∧ Kd.R (Kd.int .u8) 5 w' w.heap.size (fun _ => True) v (ansOut r).1) ∧ Below w.heap.size w w' := by
  obtain ⟨n, hn⟩ := (refans_ev r q1 q2 q3 hu.1 hu.2).rounds
  refine (Go.Proofs.Ytpaknjmcjblahaa.P.waystoneref17_Answer.calls n r.e r.n A2 c2 r.ids A3 c3 r.rules r.h r.fr r.ad A7 c7 r.dv r.ft r.od r.op (ansOut r).1 (ansOut r).2 w h2 g2 h3 g3 h7 g7 hn).mono ?_
  rintro e w' ⟨v, rfl, hR, hb⟩
  exact ⟨⟨v, rfl, hR⟩, hb⟩
theorem rsame_any (r s : Rs) (A2 : Option Addr) (c2 : Nat) (A3 : Option Addr) (c3 : Nat) (A7 : Option Addr) (c7 : Nat) (B2 : Option Addr) (d2 : Nat) (B3 : Option Addr) (d3 : Nat) (B7 : Option Addr) (d7 : Nat) (w : World)
    (h2 : Kd.C (Kd.int .i64) w A2 r.ids.length r.ids) (g2 : r.ids.length ≤ c2) (h3 : Kd.C k29 w A3 r.rules.length r.rules) (g3 : r.rules.length ≤ c3) (h7 : Kd.C (Kd.int .i64) w A7 r.dv.length r.dv) (g7 : r.dv.length ≤ c7)
    (i2 : Kd.C (Kd.int .i64) w B2 s.ids.length s.ids) (j2 : s.ids.length ≤ d2) (i3 : Kd.C k29 w B3 s.rules.length s.rules) (j3 : s.rules.length ≤ d3) (i7 : Kd.C (Kd.int .i64) w B7 s.dv.length s.dv) (j7 : s.dv.length ≤ d7)
    (l1 : r.ids.length ≤ 1000000) (l2 : r.rules.length ≤ 1000000) (l3 : r.dv.length ≤ 1000000) :
    Calls Try.prog 20 #[.agg (rsVals (.slice A2 r.ids.length c2) (.slice A3 r.rules.length c3) (.slice A7 r.dv.length c7) r).toArray, .agg (rsVals (.slice B2 s.ids.length d2) (.slice B3 s.rules.length d3) (.slice B7 s.dv.length d7) s).toArray] w fun e w' => e = .returned (.bool (sameB r s)) ∧ Below w.heap.size w w' := by
  obtain ⟨n, hn⟩ := (refsame_f r s l1 l2 l3).rounds
  exact Go.Proofs.Ytpaknjmcjblahaa.P.waystoneref17_Same.calls n r.e r.n A2 c2 r.ids A3 c3 r.rules r.h r.fr r.ad A7 c7 r.dv r.ft r.od r.op s.e s.n B2 d2 s.ids B3 d3 s.rules s.h s.fr s.ad B7 d7 s.dv s.ft s.od s.op (sameB r s) w h2 g2 h3 g3 h7 g7 i2 j2 i3 j3 i7 j7 hn
set_option maxHeartbeats 16000000 in
theorem wireRsp_b1 (r s : Rs) (hur : okRs r) (hus : okRs s) (A2r : Option Addr) (c2r : Nat) (A3r : Option Addr) (c3r : Nat) (A7r : Option Addr) (c7r : Nat) (A2s : Option Addr) (c2s : Nat) (A3s : Option Addr) (c3s : Nat) (A7s : Option Addr) (c7s : Nat) (A : Option Addr) (c : Nat) (l : List Int) (w : World) (h2r : Kd.C (Kd.int .i64) w A2r r.ids.length r.ids) (g2r : r.ids.length ≤ c2r) (h3r : Kd.C k29 w A3r r.rules.length r.rules) (g3r : r.rules.length ≤ c3r) (h7r : Kd.C (Kd.int .i64) w A7r r.dv.length r.dv) (g7r : r.dv.length ≤ c7r) (h2s : Kd.C (Kd.int .i64) w A2s s.ids.length s.ids) (g2s : s.ids.length ≤ c2s) (h3s : Kd.C k29 w A3s s.rules.length s.rules) (g3s : s.rules.length ≤ c3s) (h7s : Kd.C (Kd.int .i64) w A7s s.dv.length s.dv) (g7s : s.dv.length ≤ c7s) (hC : Kd.C (Kd.int .u8) w A l.length l) (hc : l.length ≤ c) (hby : bytes l) (f1 : fitsB zRq r = false) :
    Calls Try.prog 6 #[.agg #[.int .i64 r.e, .int .i64 r.n, (.slice A2r r.ids.length c2r), (.slice A3r r.rules.length c3r), .bool r.h, .int .i64 r.fr, .int .u32 r.ad, (.slice A7r r.dv.length c7r), .int .i64 r.ft, .int .i64 r.od, .int .i64 r.op], .agg #[.int .i64 s.e, .int .i64 s.n, (.slice A2s s.ids.length c2s), (.slice A3s s.rules.length c3s), .bool s.h, .int .i64 s.fr, .int .u32 s.ad, (.slice A7s s.dv.length c7s), .int .i64 s.ft, .int .i64 s.od, .int .i64 s.op], .slice A l.length c] w fun e w' => e = .returned (.bool true) ∧ Below w.heap.size w w' := by
  have CFr := Aside0.mk (fun (W : World) h2 h3 h7 => fits_any zRq r A2r c2r A3r c3r A7r c7r W h2 g2r h3 g3r h7 g7r)
  have CEr := Aside0.mk (fun (W : World) h2 h3 h7 => ans_any r A2r c2r A3r c3r A7r c7r W h2 h3 h7 hur.1 hur.2)
  have H2r := Aside0.mk h2r
  have H3r := Aside0.mk h3r
  have H7r := Aside0.mk h7r
  have CFs := Aside0.mk (fun (W : World) h2 h3 h7 => fits_any zRq s A2s c2s A3s c3s A7s c7s W h2 g2s h3 g3s h7 g7s)
  have CEs := Aside0.mk (fun (W : World) h2 h3 h7 => ans_any s A2s c2s A3s c3s A7s c7s W h2 h3 h7 hus.1 hus.2)
  have H2s := Aside0.mk h2s
  have H3s := Aside0.mk h3s
  have H7s := Aside0.mk h7s
  have CA := Aside0.mk alive_any
  have HC := Aside0.mk hC
  rw [f1] at CFr
  generalize fitsB zRq s = fb at *
  try clear f1
  try clear f2
  replace HC := Aside0.mk HC.out
  clear hC
  clear g2r g3r g7r g2s g3s g7s
  obtain ⟨BR, hBR⟩ : ∃ x, x = (Obj.cells #[.int .i64 r.e, .int .i64 r.n, (.slice A2r r.ids.length c2r), (.slice A3r r.rules.length c3r), .bool r.h, .int .i64 r.fr, .int .u32 r.ad, (.slice A7r r.dv.length c7r), .int .i64 r.ft, .int .i64 r.od, .int .i64 r.op] 50) := ⟨_, rfl⟩
  obtain ⟨BS, hBS⟩ : ∃ x, x = (Obj.cells #[.int .i64 s.e, .int .i64 s.n, (.slice A2s s.ids.length c2s), (.slice A3s s.rules.length c3s), .bool s.h, .int .i64 s.fr, .int .u32 s.ad, (.slice A7s s.dv.length c7s), .int .i64 s.ft, .int .i64 s.od, .int .i64 s.op] 50) := ⟨_, rfl⟩
  have hba := (Below.refl w.heap.size w).alloc (Nat.le_refl _) BR
  have hbb := (Below.refl (w.alloc BR).heap.size (w.alloc BR)).alloc (Nat.le_refl _) BS
  have KX := Aside0.mk (blk_below (blk_new w BR) hbb)
  have KY0 := blk_new (w.alloc BR) BS
  have hsz : (w.alloc BR).heap.size = w.heap.size + 1 := by simp
  rw [hsz] at KY0
  have KY := Aside0.mk KY0
  have HB := Aside0.mk (hba.trans (hbb.mono hba.size))
  replace H2r := Aside0.mk (Kd.C_below H2r.out HB.out)
  replace H3r := Aside0.mk (Kd.C_below H3r.out HB.out)
  replace H7r := Aside0.mk (Kd.C_below H7r.out HB.out)
  replace H2s := Aside0.mk (Kd.C_below H2s.out HB.out)
  replace H3s := Aside0.mk (Kd.C_below H3s.out HB.out)
  replace H7s := Aside0.mk (Kd.C_below H7s.out HB.out)
  replace HC := Aside0.mk (Kd.C_below HC.out HB.out)
  subst hBR hBS
  clear hba hbb KY0 hsz
  go_enter Try.func6, Try.ntmps6
  try dsimp only
  repeat ((fail_if_success (show Code.wp _ (Code.seq (Code.region 1 _ _) _) _ _ _)); (first | go_values | go_skip | go_guarded | go_step | go_upon | go_back))
  generalize ((w.alloc (.cells #[.int .i64 r.e, .int .i64 r.n, (.slice A2r r.ids.length c2r), (.slice A3r r.rules.length c3r), .bool r.h, .int .i64 r.fr, .int .u32 r.ad, (.slice A7r r.dv.length c7r), .int .i64 r.ft, .int .i64 r.od, .int .i64 r.op] 50)).alloc (.cells #[.int .i64 s.e, .int .i64 s.n, (.slice A2s s.ids.length c2s), (.slice A3s s.rules.length c3s), .bool s.h, .int .i64 s.fr, .int .u32 s.ad, (.slice A7s s.dv.length c7s), .int .i64 s.ft, .int .i64 s.od, .int .i64 s.op] 50)) = W0 at *
  obtain ⟨gY, hgY⟩ : ∃ g, w.heap.size + 1 = g := ⟨_, rfl⟩
  rw [hgY] at KY ⊢
  clear hgY
  try dsimp only
  repeat ((fail_if_success (show Oper.wp _ (Oper.mk _ (Op.load 50 _) _ _ _ _) _ _ _ _)); (first | go_values | go_skip | go_guarded | go_step | go_upon | go_back))
  refine wp_load_row KX.out rfl rfl Try.underlying50 rfl (by kernel_rfl) ?_
  try go_simp
  go_wp2_with fail
  refine (CFr.out W0 H2r.out H3r.out H7r.out).mono ?_
  rintro e W1 ⟨rfl, hb⟩
  replace KX := Aside0.mk (blk_below KX.out hb)
  replace KY := Aside0.mk (blk_below KY.out hb)
  replace HB := Aside0.mk (HB.out.trans (hb.mono HB.out.size))
  replace HC := Aside0.mk (Kd.C_below HC.out hb)
  replace H2r := Aside0.mk (Kd.C_below H2r.out hb)
  replace H3r := Aside0.mk (Kd.C_below H3r.out hb)
  replace H7r := Aside0.mk (Kd.C_below H7r.out hb)
  replace H2s := Aside0.mk (Kd.C_below H2s.out hb)
  replace H3s := Aside0.mk (Kd.C_below H3s.out hb)
  replace H7s := Aside0.mk (Kd.C_below H7s.out hb)
  clear hb
  try dsimp only
  repeat ((fail_if_success (show Oper.wp _ (Oper.mk _ (Op.load 50 _) _ _ _ _) _ _ _ _)); (first | go_values | go_skip | go_guarded | go_step | go_upon | go_back))
  refine wp_load_row KY.out rfl rfl Try.underlying50 rfl (by kernel_rfl) ?_
  try go_simp
  go_wp2_with fail
  refine (CFs.out W1 H2s.out H3s.out H7s.out).mono ?_
  rintro e W2 ⟨rfl, hb⟩
  replace KX := Aside0.mk (blk_below KX.out hb)
  replace KY := Aside0.mk (blk_below KY.out hb)
  replace HB := Aside0.mk (HB.out.trans (hb.mono HB.out.size))
  replace HC := Aside0.mk (Kd.C_below HC.out hb)
  replace H2r := Aside0.mk (Kd.C_below H2r.out hb)
  replace H3r := Aside0.mk (Kd.C_below H3r.out hb)
  replace H7r := Aside0.mk (Kd.C_below H7r.out hb)
  replace H2s := Aside0.mk (Kd.C_below H2s.out hb)
  replace H3s := Aside0.mk (Kd.C_below H3s.out hb)
  replace H7s := Aside0.mk (Kd.C_below H7s.out hb)
  clear hb
  go_wp2_with fail
  refine (CA.out W2).mono ?_
  rintro e W3 ⟨rfl, hb⟩
  replace HB := Aside0.mk (HB.out.trans (hb.mono HB.out.size))
  clear hb
  go_wp2_with fail
  go_ret
  exact ⟨rfl, HB.out⟩
set_option maxHeartbeats 16000000 in
theorem wireRsp_b2 (r s : Rs) (hur : okRs r) (hus : okRs s) (A2r : Option Addr) (c2r : Nat) (A3r : Option Addr) (c3r : Nat) (A7r : Option Addr) (c7r : Nat) (A2s : Option Addr) (c2s : Nat) (A3s : Option Addr) (c3s : Nat) (A7s : Option Addr) (c7s : Nat) (A : Option Addr) (c : Nat) (l : List Int) (w : World) (h2r : Kd.C (Kd.int .i64) w A2r r.ids.length r.ids) (g2r : r.ids.length ≤ c2r) (h3r : Kd.C k29 w A3r r.rules.length r.rules) (g3r : r.rules.length ≤ c3r) (h7r : Kd.C (Kd.int .i64) w A7r r.dv.length r.dv) (g7r : r.dv.length ≤ c7r) (h2s : Kd.C (Kd.int .i64) w A2s s.ids.length s.ids) (g2s : s.ids.length ≤ c2s) (h3s : Kd.C k29 w A3s s.rules.length s.rules) (g3s : s.rules.length ≤ c3s) (h7s : Kd.C (Kd.int .i64) w A7s s.dv.length s.dv) (g7s : s.dv.length ≤ c7s) (hC : Kd.C (Kd.int .u8) w A l.length l) (hc : l.length ≤ c) (hby : bytes l) (f1 : fitsB zRq r = true) (f2 : fitsB zRq s = false) :
    Calls Try.prog 6 #[.agg #[.int .i64 r.e, .int .i64 r.n, (.slice A2r r.ids.length c2r), (.slice A3r r.rules.length c3r), .bool r.h, .int .i64 r.fr, .int .u32 r.ad, (.slice A7r r.dv.length c7r), .int .i64 r.ft, .int .i64 r.od, .int .i64 r.op], .agg #[.int .i64 s.e, .int .i64 s.n, (.slice A2s s.ids.length c2s), (.slice A3s s.rules.length c3s), .bool s.h, .int .i64 s.fr, .int .u32 s.ad, (.slice A7s s.dv.length c7s), .int .i64 s.ft, .int .i64 s.od, .int .i64 s.op], .slice A l.length c] w fun e w' => e = .returned (.bool true) ∧ Below w.heap.size w w' := by
  have CFr := Aside0.mk (fun (W : World) h2 h3 h7 => fits_any zRq r A2r c2r A3r c3r A7r c7r W h2 g2r h3 g3r h7 g7r)
  have CEr := Aside0.mk (fun (W : World) h2 h3 h7 => ans_any r A2r c2r A3r c3r A7r c7r W h2 h3 h7 hur.1 hur.2)
  have H2r := Aside0.mk h2r
  have H3r := Aside0.mk h3r
  have H7r := Aside0.mk h7r
  have CFs := Aside0.mk (fun (W : World) h2 h3 h7 => fits_any zRq s A2s c2s A3s c3s A7s c7s W h2 g2s h3 g3s h7 g7s)
  have CEs := Aside0.mk (fun (W : World) h2 h3 h7 => ans_any s A2s c2s A3s c3s A7s c7s W h2 h3 h7 hus.1 hus.2)
  have H2s := Aside0.mk h2s
  have H3s := Aside0.mk h3s
  have H7s := Aside0.mk h7s
  have CA := Aside0.mk alive_any
  have HC := Aside0.mk hC
  rw [f1] at CFr
  rw [f2] at CFs
  try clear f1
  try clear f2
  replace HC := Aside0.mk HC.out
  clear hC
  clear g2r g3r g7r g2s g3s g7s
  obtain ⟨BR, hBR⟩ : ∃ x, x = (Obj.cells #[.int .i64 r.e, .int .i64 r.n, (.slice A2r r.ids.length c2r), (.slice A3r r.rules.length c3r), .bool r.h, .int .i64 r.fr, .int .u32 r.ad, (.slice A7r r.dv.length c7r), .int .i64 r.ft, .int .i64 r.od, .int .i64 r.op] 50) := ⟨_, rfl⟩
  obtain ⟨BS, hBS⟩ : ∃ x, x = (Obj.cells #[.int .i64 s.e, .int .i64 s.n, (.slice A2s s.ids.length c2s), (.slice A3s s.rules.length c3s), .bool s.h, .int .i64 s.fr, .int .u32 s.ad, (.slice A7s s.dv.length c7s), .int .i64 s.ft, .int .i64 s.od, .int .i64 s.op] 50) := ⟨_, rfl⟩
  have hba := (Below.refl w.heap.size w).alloc (Nat.le_refl _) BR
  have hbb := (Below.refl (w.alloc BR).heap.size (w.alloc BR)).alloc (Nat.le_refl _) BS
  have KX := Aside0.mk (blk_below (blk_new w BR) hbb)
  have KY0 := blk_new (w.alloc BR) BS
  have hsz : (w.alloc BR).heap.size = w.heap.size + 1 := by simp
  rw [hsz] at KY0
  have KY := Aside0.mk KY0
  have HB := Aside0.mk (hba.trans (hbb.mono hba.size))
  replace H2r := Aside0.mk (Kd.C_below H2r.out HB.out)
  replace H3r := Aside0.mk (Kd.C_below H3r.out HB.out)
  replace H7r := Aside0.mk (Kd.C_below H7r.out HB.out)
  replace H2s := Aside0.mk (Kd.C_below H2s.out HB.out)
  replace H3s := Aside0.mk (Kd.C_below H3s.out HB.out)
  replace H7s := Aside0.mk (Kd.C_below H7s.out HB.out)
  replace HC := Aside0.mk (Kd.C_below HC.out HB.out)
  subst hBR hBS
  clear hba hbb KY0 hsz
  go_enter Try.func6, Try.ntmps6
  try dsimp only
  repeat ((fail_if_success (show Code.wp _ (Code.seq (Code.region 1 _ _) _) _ _ _)); (first | go_values | go_skip | go_guarded | go_step | go_upon | go_back))
  generalize ((w.alloc (.cells #[.int .i64 r.e, .int .i64 r.n, (.slice A2r r.ids.length c2r), (.slice A3r r.rules.length c3r), .bool r.h, .int .i64 r.fr, .int .u32 r.ad, (.slice A7r r.dv.length c7r), .int .i64 r.ft, .int .i64 r.od, .int .i64 r.op] 50)).alloc (.cells #[.int .i64 s.e, .int .i64 s.n, (.slice A2s s.ids.length c2s), (.slice A3s s.rules.length c3s), .bool s.h, .int .i64 s.fr, .int .u32 s.ad, (.slice A7s s.dv.length c7s), .int .i64 s.ft, .int .i64 s.od, .int .i64 s.op] 50)) = W0 at *
  obtain ⟨gY, hgY⟩ : ∃ g, w.heap.size + 1 = g := ⟨_, rfl⟩
  rw [hgY] at KY ⊢
  clear hgY
  try dsimp only
  repeat ((fail_if_success (show Oper.wp _ (Oper.mk _ (Op.load 50 _) _ _ _ _) _ _ _ _)); (first | go_values | go_skip | go_guarded | go_step | go_upon | go_back))
  refine wp_load_row KX.out rfl rfl Try.underlying50 rfl (by kernel_rfl) ?_
  try go_simp
  go_wp2_with fail
  refine (CFr.out W0 H2r.out H3r.out H7r.out).mono ?_
  rintro e W1 ⟨rfl, hb⟩
  replace KX := Aside0.mk (blk_below KX.out hb)
  replace KY := Aside0.mk (blk_below KY.out hb)
  replace HB := Aside0.mk (HB.out.trans (hb.mono HB.out.size))
  replace HC := Aside0.mk (Kd.C_below HC.out hb)
  replace H2r := Aside0.mk (Kd.C_below H2r.out hb)
  replace H3r := Aside0.mk (Kd.C_below H3r.out hb)
  replace H7r := Aside0.mk (Kd.C_below H7r.out hb)
  replace H2s := Aside0.mk (Kd.C_below H2s.out hb)
  replace H3s := Aside0.mk (Kd.C_below H3s.out hb)
  replace H7s := Aside0.mk (Kd.C_below H7s.out hb)
  clear hb
  try dsimp only
  repeat ((fail_if_success (show Oper.wp _ (Oper.mk _ (Op.load 50 _) _ _ _ _) _ _ _ _)); (first | go_values | go_skip | go_guarded | go_step | go_upon | go_back))
  refine wp_load_row KY.out rfl rfl Try.underlying50 rfl (by kernel_rfl) ?_
  try go_simp
  go_wp2_with fail
  refine (CFs.out W1 H2s.out H3s.out H7s.out).mono ?_
  rintro e W2 ⟨rfl, hb⟩
  replace KX := Aside0.mk (blk_below KX.out hb)
  replace KY := Aside0.mk (blk_below KY.out hb)
  replace HB := Aside0.mk (HB.out.trans (hb.mono HB.out.size))
  replace HC := Aside0.mk (Kd.C_below HC.out hb)
  replace H2r := Aside0.mk (Kd.C_below H2r.out hb)
  replace H3r := Aside0.mk (Kd.C_below H3r.out hb)
  replace H7r := Aside0.mk (Kd.C_below H7r.out hb)
  replace H2s := Aside0.mk (Kd.C_below H2s.out hb)
  replace H3s := Aside0.mk (Kd.C_below H3s.out hb)
  replace H7s := Aside0.mk (Kd.C_below H7s.out hb)
  clear hb
  go_wp2_with fail
  refine (CA.out W2).mono ?_
  rintro e W3 ⟨rfl, hb⟩
  replace HB := Aside0.mk (HB.out.trans (hb.mono HB.out.size))
  clear hb
  go_wp2_with fail
  go_ret
  exact ⟨rfl, HB.out⟩
set_option maxHeartbeats 16000000 in
theorem wireRsp_b3 (r s : Rs) (hur : okRs r) (hus : okRs s) (A2r : Option Addr) (c2r : Nat) (A3r : Option Addr) (c3r : Nat) (A7r : Option Addr) (c7r : Nat) (A2s : Option Addr) (c2s : Nat) (A3s : Option Addr) (c3s : Nat) (A7s : Option Addr) (c7s : Nat) (A : Option Addr) (c : Nat) (l : List Int) (w : World) (h2r : Kd.C (Kd.int .i64) w A2r r.ids.length r.ids) (g2r : r.ids.length ≤ c2r) (h3r : Kd.C k29 w A3r r.rules.length r.rules) (g3r : r.rules.length ≤ c3r) (h7r : Kd.C (Kd.int .i64) w A7r r.dv.length r.dv) (g7r : r.dv.length ≤ c7r) (h2s : Kd.C (Kd.int .i64) w A2s s.ids.length s.ids) (g2s : s.ids.length ≤ c2s) (h3s : Kd.C k29 w A3s s.rules.length s.rules) (g3s : s.rules.length ≤ c3s) (h7s : Kd.C (Kd.int .i64) w A7s s.dv.length s.dv) (g7s : s.dv.length ≤ c7s) (hC : Kd.C (Kd.int .u8) w A l.length l) (hc : l.length ≤ c) (hby : bytes l) (f1 : fitsB zRq r = true) (f2 : fitsB zRq s = true) (hl : 2000 < (l.length : Int)) :
    Calls Try.prog 6 #[.agg #[.int .i64 r.e, .int .i64 r.n, (.slice A2r r.ids.length c2r), (.slice A3r r.rules.length c3r), .bool r.h, .int .i64 r.fr, .int .u32 r.ad, (.slice A7r r.dv.length c7r), .int .i64 r.ft, .int .i64 r.od, .int .i64 r.op], .agg #[.int .i64 s.e, .int .i64 s.n, (.slice A2s s.ids.length c2s), (.slice A3s s.rules.length c3s), .bool s.h, .int .i64 s.fr, .int .u32 s.ad, (.slice A7s s.dv.length c7s), .int .i64 s.ft, .int .i64 s.od, .int .i64 s.op], .slice A l.length c] w fun e w' => e = .returned (.bool true) ∧ Below w.heap.size w w' := by
  have CFr := Aside0.mk (fun (W : World) h2 h3 h7 => fits_any zRq r A2r c2r A3r c3r A7r c7r W h2 g2r h3 g3r h7 g7r)
  have CEr := Aside0.mk (fun (W : World) h2 h3 h7 => ans_any r A2r c2r A3r c3r A7r c7r W h2 h3 h7 hur.1 hur.2)
  have H2r := Aside0.mk h2r
  have H3r := Aside0.mk h3r
  have H7r := Aside0.mk h7r
  have CFs := Aside0.mk (fun (W : World) h2 h3 h7 => fits_any zRq s A2s c2s A3s c3s A7s c7s W h2 g2s h3 g3s h7 g7s)
  have CEs := Aside0.mk (fun (W : World) h2 h3 h7 => ans_any s A2s c2s A3s c3s A7s c7s W h2 h3 h7 hus.1 hus.2)
  have H2s := Aside0.mk h2s
  have H3s := Aside0.mk h3s
  have H7s := Aside0.mk h7s
  have CA := Aside0.mk alive_any
  have HC := Aside0.mk hC
  rw [f1] at CFr
  rw [f2] at CFs
  try clear f1
  try clear f2
  replace HC := Aside0.mk HC.out
  clear hC
  clear g2r g3r g7r g2s g3s g7s
  obtain ⟨BR, hBR⟩ : ∃ x, x = (Obj.cells #[.int .i64 r.e, .int .i64 r.n, (.slice A2r r.ids.length c2r), (.slice A3r r.rules.length c3r), .bool r.h, .int .i64 r.fr, .int .u32 r.ad, (.slice A7r r.dv.length c7r), .int .i64 r.ft, .int .i64 r.od, .int .i64 r.op] 50) := ⟨_, rfl⟩
  obtain ⟨BS, hBS⟩ : ∃ x, x = (Obj.cells #[.int .i64 s.e, .int .i64 s.n, (.slice A2s s.ids.length c2s), (.slice A3s s.rules.length c3s), .bool s.h, .int .i64 s.fr, .int .u32 s.ad, (.slice A7s s.dv.length c7s), .int .i64 s.ft, .int .i64 s.od, .int .i64 s.op] 50) := ⟨_, rfl⟩
  have hba := (Below.refl w.heap.size w).alloc (Nat.le_refl _) BR
  have hbb := (Below.refl (w.alloc BR).heap.size (w.alloc BR)).alloc (Nat.le_refl _) BS
  have KX := Aside0.mk (blk_below (blk_new w BR) hbb)
  have KY0 := blk_new (w.alloc BR) BS
  have hsz : (w.alloc BR).heap.size = w.heap.size + 1 := by simp
  rw [hsz] at KY0
  have KY := Aside0.mk KY0
  have HB := Aside0.mk (hba.trans (hbb.mono hba.size))
  replace H2r := Aside0.mk (Kd.C_below H2r.out HB.out)
  replace H3r := Aside0.mk (Kd.C_below H3r.out HB.out)
  replace H7r := Aside0.mk (Kd.C_below H7r.out HB.out)
  replace H2s := Aside0.mk (Kd.C_below H2s.out HB.out)
  replace H3s := Aside0.mk (Kd.C_below H3s.out HB.out)
  replace H7s := Aside0.mk (Kd.C_below H7s.out HB.out)
  replace HC := Aside0.mk (Kd.C_below HC.out HB.out)
  subst hBR hBS
  clear hba hbb KY0 hsz
  go_enter Try.func6, Try.ntmps6
  try dsimp only
  repeat ((fail_if_success (show Code.wp _ (Code.seq (Code.region 1 _ _) _) _ _ _)); (first | go_values | go_skip | go_guarded | go_step | go_upon | go_back))
  generalize ((w.alloc (.cells #[.int .i64 r.e, .int .i64 r.n, (.slice A2r r.ids.length c2r), (.slice A3r r.rules.length c3r), .bool r.h, .int .i64 r.fr, .int .u32 r.ad, (.slice A7r r.dv.length c7r), .int .i64 r.ft, .int .i64 r.od, .int .i64 r.op] 50)).alloc (.cells #[.int .i64 s.e, .int .i64 s.n, (.slice A2s s.ids.length c2s), (.slice A3s s.rules.length c3s), .bool s.h, .int .i64 s.fr, .int .u32 s.ad, (.slice A7s s.dv.length c7s), .int .i64 s.ft, .int .i64 s.od, .int .i64 s.op] 50)) = W0 at *
  obtain ⟨gY, hgY⟩ : ∃ g, w.heap.size + 1 = g := ⟨_, rfl⟩
  rw [hgY] at KY ⊢
  clear hgY
  try dsimp only
  repeat ((fail_if_success (show Oper.wp _ (Oper.mk _ (Op.load 50 _) _ _ _ _) _ _ _ _)); (first | go_values | go_skip | go_guarded | go_step | go_upon | go_back))
  refine wp_load_row KX.out rfl rfl Try.underlying50 rfl (by kernel_rfl) ?_
  try go_simp
  go_wp2_with fail
  refine (CFr.out W0 H2r.out H3r.out H7r.out).mono ?_
  rintro e W1 ⟨rfl, hb⟩
  replace KX := Aside0.mk (blk_below KX.out hb)
  replace KY := Aside0.mk (blk_below KY.out hb)
  replace HB := Aside0.mk (HB.out.trans (hb.mono HB.out.size))
  replace HC := Aside0.mk (Kd.C_below HC.out hb)
  replace H2r := Aside0.mk (Kd.C_below H2r.out hb)
  replace H3r := Aside0.mk (Kd.C_below H3r.out hb)
  replace H7r := Aside0.mk (Kd.C_below H7r.out hb)
  replace H2s := Aside0.mk (Kd.C_below H2s.out hb)
  replace H3s := Aside0.mk (Kd.C_below H3s.out hb)
  replace H7s := Aside0.mk (Kd.C_below H7s.out hb)
  clear hb
  try dsimp only
  repeat ((fail_if_success (show Oper.wp _ (Oper.mk _ (Op.load 50 _) _ _ _ _) _ _ _ _)); (first | go_values | go_skip | go_guarded | go_step | go_upon | go_back))
  refine wp_load_row KY.out rfl rfl Try.underlying50 rfl (by kernel_rfl) ?_
  try go_simp
  go_wp2_with fail
  refine (CFs.out W1 H2s.out H3s.out H7s.out).mono ?_
  rintro e W2 ⟨rfl, hb⟩
  replace KX := Aside0.mk (blk_below KX.out hb)
  replace KY := Aside0.mk (blk_below KY.out hb)
  replace HB := Aside0.mk (HB.out.trans (hb.mono HB.out.size))
  replace HC := Aside0.mk (Kd.C_below HC.out hb)
  replace H2r := Aside0.mk (Kd.C_below H2r.out hb)
  replace H3r := Aside0.mk (Kd.C_below H3r.out hb)
  replace H7r := Aside0.mk (Kd.C_below H7r.out hb)
  replace H2s := Aside0.mk (Kd.C_below H2s.out hb)
  replace H3s := Aside0.mk (Kd.C_below H3s.out hb)
  replace H7s := Aside0.mk (Kd.C_below H7s.out hb)
  clear hb
  go_wp2_with fail
  refine (CA.out W2).mono ?_
  rintro e W3 ⟨rfl, hb⟩
  replace HB := Aside0.mk (HB.out.trans (hb.mono HB.out.size))
  clear hb
  go_wp2_with fail
  go_ret
  exact ⟨rfl, HB.out⟩
set_option maxHeartbeats 16000000 in
theorem wireRsp_good (r s : Rs) (hur : okRs r) (hus : okRs s) (A2r : Option Addr) (c2r : Nat) (A3r : Option Addr) (c3r : Nat) (A7r : Option Addr) (c7r : Nat) (A2s : Option Addr) (c2s : Nat) (A3s : Option Addr) (c3s : Nat) (A7s : Option Addr) (c7s : Nat) (A : Option Addr) (c : Nat) (l : List Int) (w : World) (h2r : Kd.C (Kd.int .i64) w A2r r.ids.length r.ids) (g2r : r.ids.length ≤ c2r) (h3r : Kd.C k29 w A3r r.rules.length r.rules) (g3r : r.rules.length ≤ c3r) (h7r : Kd.C (Kd.int .i64) w A7r r.dv.length r.dv) (g7r : r.dv.length ≤ c7r) (h2s : Kd.C (Kd.int .i64) w A2s s.ids.length s.ids) (g2s : s.ids.length ≤ c2s) (h3s : Kd.C k29 w A3s s.rules.length s.rules) (g3s : s.rules.length ≤ c3s) (h7s : Kd.C (Kd.int .i64) w A7s s.dv.length s.dv) (g7s : s.dv.length ≤ c7s) (hC : Kd.C (Kd.int .u8) w A l.length l) (hc : l.length ≤ c) (hby : bytes l) (L : List Int) (ec : Int) (u : Rs) (dc : Int) (f1 : fitsB zRq r = true) (f2 : fitsB zRq s = true) (hl : ¬ 2000 < (l.length : Int)) (e1 : ansOut r = (L, ec)) (hR : readOut l = (u, dc)) (q1 : r.ids.length ≤ 1000000) (q2 : r.rules.length ≤ 1000000) (q3 : r.dv.length ≤ 1000000) (p1 : u.ids.length ≤ 1000000) (p2 : u.rules.length ≤ 1000000) (p3 : u.dv.length ≤ 1000000) :
    Calls Try.prog 6 #[.agg #[.int .i64 r.e, .int .i64 r.n, (.slice A2r r.ids.length c2r), (.slice A3r r.rules.length c3r), .bool r.h, .int .i64 r.fr, .int .u32 r.ad, (.slice A7r r.dv.length c7r), .int .i64 r.ft, .int .i64 r.od, .int .i64 r.op], .agg #[.int .i64 s.e, .int .i64 s.n, (.slice A2s s.ids.length c2s), (.slice A3s s.rules.length c3s), .bool s.h, .int .i64 s.fr, .int .u32 s.ad, (.slice A7s s.dv.length c7s), .int .i64 s.ft, .int .i64 s.od, .int .i64 s.op], .slice A l.length c] w fun e w' => e = .returned (.bool true) ∧ Below w.heap.size w w' := by
  have CFr := Aside0.mk (fun (W : World) h2 h3 h7 => fits_any zRq r A2r c2r A3r c3r A7r c7r W h2 g2r h3 g3r h7 g7r)
  have CEr := Aside0.mk (fun (W : World) h2 h3 h7 => ans_any r A2r c2r A3r c3r A7r c7r W h2 h3 h7 hur.1 hur.2)
  have H2r := Aside0.mk h2r
  have H3r := Aside0.mk h3r
  have H7r := Aside0.mk h7r
  have CFs := Aside0.mk (fun (W : World) h2 h3 h7 => fits_any zRq s A2s c2s A3s c3s A7s c7s W h2 g2s h3 g3s h7 g7s)
  have CEs := Aside0.mk (fun (W : World) h2 h3 h7 => ans_any s A2s c2s A3s c3s A7s c7s W h2 h3 h7 hus.1 hus.2)
  have H2s := Aside0.mk h2s
  have H3s := Aside0.mk h3s
  have H7s := Aside0.mk h7s
  have CA := Aside0.mk alive_any
  have HC := Aside0.mk hC
  rw [f1] at CFr
  rw [f2] at CFs
  rw [e1] at CEr
  have hl2 := sz2 l.length hl
  have CGr := Aside0.mk (fun (W : World) h2 h3 h7 => rans_any r A2r c2r A3r c3r A7r c7r W h2 g2r h3 g3r h7 g7r hur q1 q2 q3)
  rw [e1] at CGr
  simp only [] at CEr CGr
  try unfold rsVals at CGr
  have CR := Aside0.mk (fun (W : World) (hb : Kd.C (Kd.int .u8) W A l.length l) => read_any A c l W hb hc hl2 hby)
  have CH := Aside0.mk (fun (W : World) (hb : Kd.C (Kd.int .u8) W A l.length l) => refread_any A c l W hb hc hl2 hby)
  rw [hR] at CR CH
  try unfold rsVals at CR
  try unfold rsVals at CH
  simp only [] at CR CH
  have CS := Aside0.mk (fun W A c h => conv_S L W A c h)
  generalize strOfNums L = sL at *
  have huu : sameB u u = true := (sameB_iff u u).2 rfl
  have CUU := Aside0.mk (fun (W : World) A2 c2 A3 c3 A7 c7 B2 d2 B3 d3 B7 d7 h2 g2 h3 g3 h7 g7 i2 j2 i3 j3 i7 j7 => rsame_any u u A2 c2 A3 c3 A7 c7 B2 d2 B3 d3 B7 d7 W h2 g2 h3 g3 h7 g7 i2 j2 i3 j3 i7 j7 p1 p2 p3)
  rw [huu] at CUU
  have CSP := Aside0.mk (fun (W : World) i2 i3 i7 h2 h3 h7 => same_any r s A2r c2r A3r c3r A7r c7r A2s c2s A3s c3s A7s c7s W i2 g2r i3 g3r i7 g7r h2 g2s h3 g3s h7 g7s q1 q2 q3)
  have CSR := Aside0.mk (fun (W : World) i2 i3 i7 h2 h3 h7 => rsame_any r s A2r c2r A3r c3r A7r c7r A2s c2s A3s c3s A7s c7s W i2 g2r i3 g3r i7 g7r h2 g2s h3 g3s h7 g7s q1 q2 q3)
  try unfold rsVals at CUU
  try unfold rsVals at CSP
  try unfold rsVals at CSR
  generalize sameB r s = qb at *
  clear f1 f2 e1 hR q1 q2 q3 p1 p2 p3 huu hl2 hby hc
  replace HC := Aside0.mk HC.out
  clear hC
  clear g2r g3r g7r g2s g3s g7s
  obtain ⟨BR, hBR⟩ : ∃ x, x = (Obj.cells #[.int .i64 r.e, .int .i64 r.n, (.slice A2r r.ids.length c2r), (.slice A3r r.rules.length c3r), .bool r.h, .int .i64 r.fr, .int .u32 r.ad, (.slice A7r r.dv.length c7r), .int .i64 r.ft, .int .i64 r.od, .int .i64 r.op] 50) := ⟨_, rfl⟩
  obtain ⟨BS, hBS⟩ : ∃ x, x = (Obj.cells #[.int .i64 s.e, .int .i64 s.n, (.slice A2s s.ids.length c2s), (.slice A3s s.rules.length c3s), .bool s.h, .int .i64 s.fr, .int .u32 s.ad, (.slice A7s s.dv.length c7s), .int .i64 s.ft, .int .i64 s.od, .int .i64 s.op] 50) := ⟨_, rfl⟩
  have hba := (Below.refl w.heap.size w).alloc (Nat.le_refl _) BR
  have hbb := (Below.refl (w.alloc BR).heap.size (w.alloc BR)).alloc (Nat.le_refl _) BS
  have KX := Aside0.mk (blk_below (blk_new w BR) hbb)
  have KY0 := blk_new (w.alloc BR) BS
  have hsz : (w.alloc BR).heap.size = w.heap.size + 1 := by simp
  rw [hsz] at KY0
  have KY := Aside0.mk KY0
  have HB := Aside0.mk (hba.trans (hbb.mono hba.size))
  replace H2r := Aside0.mk (Kd.C_below H2r.out HB.out)
  replace H3r := Aside0.mk (Kd.C_below H3r.out HB.out)
  replace H7r := Aside0.mk (Kd.C_below H7r.out HB.out)
  replace H2s := Aside0.mk (Kd.C_below H2s.out HB.out)
  replace H3s := Aside0.mk (Kd.C_below H3s.out HB.out)
  replace H7s := Aside0.mk (Kd.C_below H7s.out HB.out)
  replace HC := Aside0.mk (Kd.C_below HC.out HB.out)
  subst hBR hBS
  clear hba hbb KY0 hsz
  go_enter Try.func6, Try.ntmps6
  try dsimp only
  repeat ((fail_if_success (show Code.wp _ (Code.seq (Code.region 1 _ _) _) _ _ _)); (first | go_values | go_skip | go_guarded | go_step | go_upon | go_back))
  generalize ((w.alloc (.cells #[.int .i64 r.e, .int .i64 r.n, (.slice A2r r.ids.length c2r), (.slice A3r r.rules.length c3r), .bool r.h, .int .i64 r.fr, .int .u32 r.ad, (.slice A7r r.dv.length c7r), .int .i64 r.ft, .int .i64 r.od, .int .i64 r.op] 50)).alloc (.cells #[.int .i64 s.e, .int .i64 s.n, (.slice A2s s.ids.length c2s), (.slice A3s s.rules.length c3s), .bool s.h, .int .i64 s.fr, .int .u32 s.ad, (.slice A7s s.dv.length c7s), .int .i64 s.ft, .int .i64 s.od, .int .i64 s.op] 50)) = W0 at *
  obtain ⟨gY, hgY⟩ : ∃ g, w.heap.size + 1 = g := ⟨_, rfl⟩
  rw [hgY] at KY ⊢
  clear hgY
  try dsimp only
  repeat ((fail_if_success (show Oper.wp _ (Oper.mk _ (Op.load 50 _) _ _ _ _) _ _ _ _)); (first | go_values | go_skip | go_guarded | go_step | go_upon | go_back))
  refine wp_load_row KX.out rfl rfl Try.underlying50 rfl (by kernel_rfl) ?_
  try go_simp
  go_wp2_with fail
  refine (CFr.out W0 H2r.out H3r.out H7r.out).mono ?_
  rintro e W1 ⟨rfl, hb⟩
  replace KX := Aside0.mk (blk_below KX.out hb)
  replace KY := Aside0.mk (blk_below KY.out hb)
  replace HB := Aside0.mk (HB.out.trans (hb.mono HB.out.size))
  replace HC := Aside0.mk (Kd.C_below HC.out hb)
  replace H2r := Aside0.mk (Kd.C_below H2r.out hb)
  replace H3r := Aside0.mk (Kd.C_below H3r.out hb)
  replace H7r := Aside0.mk (Kd.C_below H7r.out hb)
  replace H2s := Aside0.mk (Kd.C_below H2s.out hb)
  replace H3s := Aside0.mk (Kd.C_below H3s.out hb)
  replace H7s := Aside0.mk (Kd.C_below H7s.out hb)
  clear hb
  try dsimp only
  repeat ((fail_if_success (show Oper.wp _ (Oper.mk _ (Op.load 50 _) _ _ _ _) _ _ _ _)); (first | go_values | go_skip | go_guarded | go_step | go_upon | go_back))
  refine wp_load_row KY.out rfl rfl Try.underlying50 rfl (by kernel_rfl) ?_
  try go_simp
  go_wp2_with fail
  refine (CFs.out W1 H2s.out H3s.out H7s.out).mono ?_
  rintro e W2 ⟨rfl, hb⟩
  replace KX := Aside0.mk (blk_below KX.out hb)
  replace KY := Aside0.mk (blk_below KY.out hb)
  replace HB := Aside0.mk (HB.out.trans (hb.mono HB.out.size))
  replace HC := Aside0.mk (Kd.C_below HC.out hb)
  replace H2r := Aside0.mk (Kd.C_below H2r.out hb)
  replace H3r := Aside0.mk (Kd.C_below H3r.out hb)
  replace H7r := Aside0.mk (Kd.C_below H7r.out hb)
  replace H2s := Aside0.mk (Kd.C_below H2s.out hb)
  replace H3s := Aside0.mk (Kd.C_below H3s.out hb)
  replace H7s := Aside0.mk (Kd.C_below H7s.out hb)
  clear hb
  try dsimp only
  repeat ((fail_if_success (show Oper.wp _ (Oper.mk _ (Op.load 50 _) _ _ _ _) _ _ _ _)); (first | go_values | go_skip | go_guarded | go_step | go_upon | go_back))
  refine wp_load_row KX.out rfl rfl Try.underlying50 rfl (by kernel_rfl) ?_
  try go_simp
  go_wp2_with fail
  refine (CEr.out W2 H2r.out H3r.out H7r.out).mono ?_
  rintro e W3 ⟨⟨vr, rfl, hR⟩, hb⟩
  obtain ⟨Ar, cpr, rfl⟩ := Kd.R_slice hR
  replace KX := Aside0.mk (blk_below KX.out hb)
  replace KY := Aside0.mk (blk_below KY.out hb)
  replace HB := Aside0.mk (HB.out.trans (hb.mono HB.out.size))
  replace HC := Aside0.mk (Kd.C_below HC.out hb)
  replace H2r := Aside0.mk (Kd.C_below H2r.out hb)
  replace H3r := Aside0.mk (Kd.C_below H3r.out hb)
  replace H7r := Aside0.mk (Kd.C_below H7r.out hb)
  replace H2s := Aside0.mk (Kd.C_below H2s.out hb)
  replace H3s := Aside0.mk (Kd.C_below H3s.out hb)
  replace H7s := Aside0.mk (Kd.C_below H7s.out hb)
  clear hb
  have HX := Aside0.mk (Kd.R_reads' hR).2.2
  clear hR
  try dsimp only
  repeat ((fail_if_success (show Oper.wp _ (Oper.mk _ (Op.load 50 _) _ _ _ _) _ _ _ _)); (first | go_values | go_skip | go_guarded | go_step | go_upon | go_back))
  refine wp_load_row KX.out rfl rfl Try.underlying50 rfl (by kernel_rfl) ?_
  try go_simp
  go_wp2_with fail
  refine (CGr.out W3 H2r.out H3r.out H7r.out).mono ?_
  rintro e W4 ⟨⟨vy, rfl, hR⟩, hb⟩
  obtain ⟨Ay, cpy, rfl⟩ := Kd.R_slice hR
  replace KX := Aside0.mk (blk_below KX.out hb)
  replace KY := Aside0.mk (blk_below KY.out hb)
  replace HB := Aside0.mk (HB.out.trans (hb.mono HB.out.size))
  replace HC := Aside0.mk (Kd.C_below HC.out hb)
  replace H2r := Aside0.mk (Kd.C_below H2r.out hb)
  replace H3r := Aside0.mk (Kd.C_below H3r.out hb)
  replace H7r := Aside0.mk (Kd.C_below H7r.out hb)
  replace H2s := Aside0.mk (Kd.C_below H2s.out hb)
  replace H3s := Aside0.mk (Kd.C_below H3s.out hb)
  replace H7s := Aside0.mk (Kd.C_below H7s.out hb)
  replace HX := Aside0.mk (Kd.C_below HX.out hb)
  clear hb
  have HY := Aside0.mk (Kd.R_reads' hR).2.2
  clear hR
  go_wp2_with fail
  refine (CR.out W4 HC.out).mono ?_
  rintro e W5 ⟨⟨v2, v3, v7, rfl, hO⟩, hb⟩
  obtain ⟨A2p, c2p, rfl, l2p, hO2⟩ := Kd.R_reads hO.1
  obtain ⟨A3p, c3p, rfl, l3p, hO3⟩ := Kd.R_reads hO.2.1
  obtain ⟨A7p, c7p, rfl, l7p, hO7⟩ := Kd.R_reads hO.2.2
  replace KX := Aside0.mk (blk_below KX.out hb)
  replace KY := Aside0.mk (blk_below KY.out hb)
  replace HB := Aside0.mk (HB.out.trans (hb.mono HB.out.size))
  replace HC := Aside0.mk (Kd.C_below HC.out hb)
  replace H2r := Aside0.mk (Kd.C_below H2r.out hb)
  replace H3r := Aside0.mk (Kd.C_below H3r.out hb)
  replace H7r := Aside0.mk (Kd.C_below H7r.out hb)
  replace H2s := Aside0.mk (Kd.C_below H2s.out hb)
  replace H3s := Aside0.mk (Kd.C_below H3s.out hb)
  replace H7s := Aside0.mk (Kd.C_below H7s.out hb)
  replace HX := Aside0.mk (Kd.C_below HX.out hb)
  replace HY := Aside0.mk (Kd.C_below HY.out hb)
  clear hb
  have H2p := Aside0.mk hO2
  have H3p := Aside0.mk hO3
  have H7p := Aside0.mk hO7
  have G2p := Aside0.mk l2p
  have G3p := Aside0.mk l3p
  have G7p := Aside0.mk l7p
  clear hO hO2 hO3 hO7 l2p l3p l7p
  have hlo := HB.out.size
  have hbn := (Below.refl W5.heap.size W5).alloc (Nat.le_refl _) (.cells #[.int .i64 0, .int .i64 0, .slice none 0 0, .slice none 0 0, .bool false, .int .i64 0, .int .u32 0, .slice none 0 0, .int .i64 0, .int .i64 0, .int .i64 0] 50)
  have KU := Aside0.mk (blk_new W5 (.cells #[.int .i64 0, .int .i64 0, .slice none 0 0, .slice none 0 0, .bool false, .int .i64 0, .int .u32 0, .slice none 0 0, .int .i64 0, .int .i64 0, .int .i64 0] 50))
  have hbr := below_row (B := W5.heap.size) hbn (Nat.le_refl _) (C := #[.int .i64 u.e, .int .i64 u.n, (.slice A2p u.ids.length c2p), (.slice A3p u.rules.length c3p), .bool u.h, .int .i64 u.fr, .int .u32 u.ad, (.slice A7p u.dv.length c7p), .int .i64 u.ft, .int .i64 u.od, .int .i64 u.op])
  replace KX := Aside0.mk (blk_below KX.out hbr)
  replace KY := Aside0.mk (blk_below KY.out hbr)
  replace HB := Aside0.mk (HB.out.trans (hbr.mono HB.out.size))
  replace HC := Aside0.mk (Kd.C_below HC.out hbr)
  replace H2r := Aside0.mk (Kd.C_below H2r.out hbr)
  replace H3r := Aside0.mk (Kd.C_below H3r.out hbr)
  replace H7r := Aside0.mk (Kd.C_below H7r.out hbr)
  replace H2s := Aside0.mk (Kd.C_below H2s.out hbr)
  replace H3s := Aside0.mk (Kd.C_below H3s.out hbr)
  replace H7s := Aside0.mk (Kd.C_below H7s.out hbr)
  replace HX := Aside0.mk (Kd.C_below HX.out hbr)
  replace HY := Aside0.mk (Kd.C_below HY.out hbr)
  replace H2p := Aside0.mk (Kd.C_below H2p.out hbr)
  replace H3p := Aside0.mk (Kd.C_below H3p.out hbr)
  replace H7p := Aside0.mk (Kd.C_below H7p.out hbr)
  clear hbn hbr hlo
  try dsimp only
  repeat ((fail_if_success (show Oper.wp _ (Oper.mk none (Op.store _ _ _) _ _ _ _) _ _ _ _)); (first | go_values | go_skip | go_guarded | go_step | go_upon | go_back))
  refine wp_store_row (c' := #[.int .i64 u.e, .int .i64 u.n, (.slice A2p u.ids.length c2p), (.slice A3p u.rules.length c3p), .bool u.h, .int .i64 u.fr, .int .u32 u.ad, (.slice A7p u.dv.length c7p), .int .i64 u.ft, .int .i64 u.od, .int .i64 u.op]) KU.out rfl rfl rfl rfl (by kernel_rfl) rfl (by simp [Value.oneCell']) ?_
  replace KU := Aside0.mk (heap_setRow_self (cs := #[.int .i64 u.e, .int .i64 u.n, (.slice A2p u.ids.length c2p), (.slice A3p u.rules.length c3p), .bool u.h, .int .i64 u.fr, .int .u32 u.ad, (.slice A7p u.dv.length c7p), .int .i64 u.ft, .int .i64 u.od, .int .i64 u.op]) KU.out)
  generalize ((W5.alloc (.cells #[.int .i64 0, .int .i64 0, .slice none 0 0, .slice none 0 0, .bool false, .int .i64 0, .int .u32 0, .slice none 0 0, .int .i64 0, .int .i64 0, .int .i64 0] 50)).setRow W5.heap.size #[.int .i64 u.e, .int .i64 u.n, (.slice A2p u.ids.length c2p), (.slice A3p u.rules.length c3p), .bool u.h, .int .i64 u.fr, .int .u32 u.ad, (.slice A7p u.dv.length c7p), .int .i64 u.ft, .int .i64 u.od, .int .i64 u.op]) = W6 at *
  obtain ⟨gKU, hgKU⟩ : ∃ g, W5.heap.size = g := ⟨_, rfl⟩
  rw [hgKU] at KU ⊢
  clear hgKU
  go_wp2_with fail
  refine (CH.out W6 HC.out).mono ?_
  rintro e W7 ⟨⟨v2, v3, v7, rfl, hO⟩, hb⟩
  obtain ⟨A2q, c2q, rfl, l2q, hO2⟩ := Kd.R_reads hO.1
  obtain ⟨A3q, c3q, rfl, l3q, hO3⟩ := Kd.R_reads hO.2.1
  obtain ⟨A7q, c7q, rfl, l7q, hO7⟩ := Kd.R_reads hO.2.2
  replace KX := Aside0.mk (blk_below KX.out hb)
  replace KY := Aside0.mk (blk_below KY.out hb)
  replace HB := Aside0.mk (HB.out.trans (hb.mono HB.out.size))
  replace HC := Aside0.mk (Kd.C_below HC.out hb)
  replace H2r := Aside0.mk (Kd.C_below H2r.out hb)
  replace H3r := Aside0.mk (Kd.C_below H3r.out hb)
  replace H7r := Aside0.mk (Kd.C_below H7r.out hb)
  replace H2s := Aside0.mk (Kd.C_below H2s.out hb)
  replace H3s := Aside0.mk (Kd.C_below H3s.out hb)
  replace H7s := Aside0.mk (Kd.C_below H7s.out hb)
  replace HX := Aside0.mk (Kd.C_below HX.out hb)
  replace HY := Aside0.mk (Kd.C_below HY.out hb)
  replace H2p := Aside0.mk (Kd.C_below H2p.out hb)
  replace H3p := Aside0.mk (Kd.C_below H3p.out hb)
  replace H7p := Aside0.mk (Kd.C_below H7p.out hb)
  replace KU := Aside0.mk (blk_below KU.out hb)
  clear hb
  have H2q := Aside0.mk hO2
  have H3q := Aside0.mk hO3
  have H7q := Aside0.mk hO7
  have G2q := Aside0.mk l2q
  have G3q := Aside0.mk l3q
  have G7q := Aside0.mk l7q
  clear hO hO2 hO3 hO7 l2q l3q l7q
  have hlo := HB.out.size
  have hbn := (Below.refl W7.heap.size W7).alloc (Nat.le_refl _) (.cells #[.int .i64 0, .int .i64 0, .slice none 0 0, .slice none 0 0, .bool false, .int .i64 0, .int .u32 0, .slice none 0 0, .int .i64 0, .int .i64 0, .int .i64 0] 50)
  have KV := Aside0.mk (blk_new W7 (.cells #[.int .i64 0, .int .i64 0, .slice none 0 0, .slice none 0 0, .bool false, .int .i64 0, .int .u32 0, .slice none 0 0, .int .i64 0, .int .i64 0, .int .i64 0] 50))
  have hbr := below_row (B := W7.heap.size) hbn (Nat.le_refl _) (C := #[.int .i64 u.e, .int .i64 u.n, (.slice A2q u.ids.length c2q), (.slice A3q u.rules.length c3q), .bool u.h, .int .i64 u.fr, .int .u32 u.ad, (.slice A7q u.dv.length c7q), .int .i64 u.ft, .int .i64 u.od, .int .i64 u.op])
  replace KX := Aside0.mk (blk_below KX.out hbr)
  replace KY := Aside0.mk (blk_below KY.out hbr)
  replace HB := Aside0.mk (HB.out.trans (hbr.mono HB.out.size))
  replace HC := Aside0.mk (Kd.C_below HC.out hbr)
  replace H2r := Aside0.mk (Kd.C_below H2r.out hbr)
  replace H3r := Aside0.mk (Kd.C_below H3r.out hbr)
  replace H7r := Aside0.mk (Kd.C_below H7r.out hbr)
  replace H2s := Aside0.mk (Kd.C_below H2s.out hbr)
  replace H3s := Aside0.mk (Kd.C_below H3s.out hbr)
  replace H7s := Aside0.mk (Kd.C_below H7s.out hbr)
  replace HX := Aside0.mk (Kd.C_below HX.out hbr)
  replace HY := Aside0.mk (Kd.C_below HY.out hbr)
  replace H2p := Aside0.mk (Kd.C_below H2p.out hbr)
  replace H3p := Aside0.mk (Kd.C_below H3p.out hbr)
  replace H7p := Aside0.mk (Kd.C_below H7p.out hbr)
  replace KU := Aside0.mk (blk_below KU.out hbr)
  replace H2q := Aside0.mk (Kd.C_below H2q.out hbr)
  replace H3q := Aside0.mk (Kd.C_below H3q.out hbr)
  replace H7q := Aside0.mk (Kd.C_below H7q.out hbr)
  clear hbn hbr hlo
  try dsimp only
  repeat ((fail_if_success (show Oper.wp _ (Oper.mk none (Op.store _ _ _) _ _ _ _) _ _ _ _)); (first | go_values | go_skip | go_guarded | go_step | go_upon | go_back))
  refine wp_store_row (c' := #[.int .i64 u.e, .int .i64 u.n, (.slice A2q u.ids.length c2q), (.slice A3q u.rules.length c3q), .bool u.h, .int .i64 u.fr, .int .u32 u.ad, (.slice A7q u.dv.length c7q), .int .i64 u.ft, .int .i64 u.od, .int .i64 u.op]) KV.out rfl rfl rfl rfl (by kernel_rfl) rfl (by simp [Value.oneCell']) ?_
  replace KV := Aside0.mk (heap_setRow_self (cs := #[.int .i64 u.e, .int .i64 u.n, (.slice A2q u.ids.length c2q), (.slice A3q u.rules.length c3q), .bool u.h, .int .i64 u.fr, .int .u32 u.ad, (.slice A7q u.dv.length c7q), .int .i64 u.ft, .int .i64 u.od, .int .i64 u.op]) KV.out)
  generalize ((W7.alloc (.cells #[.int .i64 0, .int .i64 0, .slice none 0 0, .slice none 0 0, .bool false, .int .i64 0, .int .u32 0, .slice none 0 0, .int .i64 0, .int .i64 0, .int .i64 0] 50)).setRow W7.heap.size #[.int .i64 u.e, .int .i64 u.n, (.slice A2q u.ids.length c2q), (.slice A3q u.rules.length c3q), .bool u.h, .int .i64 u.fr, .int .u32 u.ad, (.slice A7q u.dv.length c7q), .int .i64 u.ft, .int .i64 u.od, .int .i64 u.op]) = W8 at *
  obtain ⟨gKV, hgKV⟩ : ∃ g, W7.heap.size = g := ⟨_, rfl⟩
  rw [hgKV] at KV ⊢
  clear hgKV
  try dsimp only
  repeat ((fail_if_success (show Oper.wp _ (Oper.mk _ (Op.load 50 _) _ _ _ _) _ _ _ _)); (first | go_values | go_skip | go_guarded | go_step | go_upon | go_back))
  refine wp_load_row KU.out rfl rfl Try.underlying50 rfl (by kernel_rfl) ?_
  try go_simp
  try dsimp only
  repeat ((fail_if_success (show Oper.wp _ (Oper.mk _ (Op.load 50 _) _ _ _ _) _ _ _ _)); (first | go_values | go_skip | go_guarded | go_step | go_upon | go_back))
  refine wp_load_row KV.out rfl rfl Try.underlying50 rfl (by kernel_rfl) ?_
  try go_simp
  go_wp2_with fail
  refine (CUU.out W8 A2p c2p A3p c3p A7p c7p A2q c2q A3q c3q A7q c7q H2p.out G2p.out H3p.out G3p.out H7p.out G7p.out H2q.out G2q.out H3q.out G3q.out H7q.out G7q.out).mono ?_
  rintro e W9 ⟨rfl, hb⟩
  replace KX := Aside0.mk (blk_below KX.out hb)
  replace KY := Aside0.mk (blk_below KY.out hb)
  replace HB := Aside0.mk (HB.out.trans (hb.mono HB.out.size))
  replace H2r := Aside0.mk (Kd.C_below H2r.out hb)
  replace H3r := Aside0.mk (Kd.C_below H3r.out hb)
  replace H7r := Aside0.mk (Kd.C_below H7r.out hb)
  replace H2s := Aside0.mk (Kd.C_below H2s.out hb)
  replace H3s := Aside0.mk (Kd.C_below H3s.out hb)
  replace H7s := Aside0.mk (Kd.C_below H7s.out hb)
  replace HX := Aside0.mk (Kd.C_below HX.out hb)
  replace HY := Aside0.mk (Kd.C_below HY.out hb)
  clear hb KU KV HC H2p H3p H7p H2q H3q H7q G2p G3p G7p G2q G3q G7q CUU CR CH
  have hbd := below_drew (Below.refl W9.heap.size W9)
  replace KX := Aside0.mk (blk_below KX.out hbd)
  replace KY := Aside0.mk (blk_below KY.out hbd)
  replace HB := Aside0.mk (HB.out.trans (hbd.mono HB.out.size))
  replace H2r := Aside0.mk (Kd.C_below H2r.out hbd)
  replace H3r := Aside0.mk (Kd.C_below H3r.out hbd)
  replace H7r := Aside0.mk (Kd.C_below H7r.out hbd)
  replace H2s := Aside0.mk (Kd.C_below H2s.out hbd)
  replace H3s := Aside0.mk (Kd.C_below H3s.out hbd)
  replace H7s := Aside0.mk (Kd.C_below H7s.out hbd)
  replace HX := Aside0.mk (Kd.C_below HX.out hbd)
  replace HY := Aside0.mk (Kd.C_below HY.out hbd)
  clear hbd
  have SW9 : (fun w' => w'.heap[w.heap.size]? = some (.cells #[.int .i64 r.e, .int .i64 r.n, (.slice A2r r.ids.length c2r), (.slice A3r r.rules.length c3r), .bool r.h, .int .i64 r.fr, .int .u32 r.ad, (.slice A7r r.dv.length c7r), .int .i64 r.ft, .int .i64 r.od, .int .i64 r.op] 50 (0, 0)) ∧ w'.heap[gY]? = some (.cells #[.int .i64 s.e, .int .i64 s.n, (.slice A2s s.ids.length c2s), (.slice A3s s.rules.length c3s), .bool s.h, .int .i64 s.fr, .int .u32 s.ad, (.slice A7s s.dv.length c7s), .int .i64 s.ft, .int .i64 s.od, .int .i64 s.op] 50 (0, 0)) ∧ (convert 37 9 (.slice Ar L.length cpr)).run Try.prog w' = .ok (.string sL) w' ∧ (convert 37 9 (.slice Ay L.length cpy)).run Try.prog w' = .ok (.string sL) w') W9.drew := ⟨KX.out, KY.out, CS.out W9.drew Ar cpr HX.out, CS.out W9.drew Ay cpy HY.out⟩
  dsimp only at SW9
  go_wp2_with fail
  refine wp_region_held_drew (S := (fun w' => w'.heap[w.heap.size]? = some (.cells #[.int .i64 r.e, .int .i64 r.n, (.slice A2r r.ids.length c2r), (.slice A3r r.rules.length c3r), .bool r.h, .int .i64 r.fr, .int .u32 r.ad, (.slice A7r r.dv.length c7r), .int .i64 r.ft, .int .i64 r.od, .int .i64 r.op] 50 (0, 0)) ∧ w'.heap[gY]? = some (.cells #[.int .i64 s.e, .int .i64 s.n, (.slice A2s s.ids.length c2s), (.slice A3s s.rules.length c3s), .bool s.h, .int .i64 s.fr, .int .u32 s.ad, (.slice A7s s.dv.length c7s), .int .i64 s.ft, .int .i64 s.od, .int .i64 s.op] 50 (0, 0)) ∧ (convert 37 9 (.slice Ar L.length cpr)).run Try.prog w' = .ok (.string sL) w' ∧ (convert 37 9 (.slice Ay L.length cpy)).run Try.prog w' = .ok (.string sL) w')) (by kernel_rfl) ?hS0 (fun hHeld => ?_)
  case hS0 => first | assumption
  refine wpAnyH_ready (rs := [0]) (by kernel_rfl) (by simp) ?_
  refine AllReadyH.cons rfl (fun K hK => ?_) AllReadyH.nil
  go_simp
  go_at_call 9; (with_reducible refine (CA.out _).mono ?_); rintro e W10 ⟨rfl, hb⟩; replace KX := Aside0.mk (blk_below KX.out hb); replace KY := Aside0.mk (blk_below KY.out hb); replace HB := Aside0.mk (HB.out.trans (hb.mono HB.out.size)); replace H2r := Aside0.mk (Kd.C_below H2r.out hb); replace H3r := Aside0.mk (Kd.C_below H3r.out hb); replace H7r := Aside0.mk (Kd.C_below H7r.out hb); replace H2s := Aside0.mk (Kd.C_below H2s.out hb); replace H3s := Aside0.mk (Kd.C_below H3s.out hb); replace H7s := Aside0.mk (Kd.C_below H7s.out hb); replace HX := Aside0.mk (Kd.C_below HX.out hb); replace HY := Aside0.mk (Kd.C_below HY.out hb); clear hb; have SW10 : (fun w' => w'.heap[w.heap.size]? = some (.cells #[.int .i64 r.e, .int .i64 r.n, (.slice A2r r.ids.length c2r), (.slice A3r r.rules.length c3r), .bool r.h, .int .i64 r.fr, .int .u32 r.ad, (.slice A7r r.dv.length c7r), .int .i64 r.ft, .int .i64 r.od, .int .i64 r.op] 50 (0, 0)) ∧ w'.heap[gY]? = some (.cells #[.int .i64 s.e, .int .i64 s.n, (.slice A2s s.ids.length c2s), (.slice A3s s.rules.length c3s), .bool s.h, .int .i64 s.fr, .int .u32 s.ad, (.slice A7s s.dv.length c7s), .int .i64 s.ft, .int .i64 s.od, .int .i64 s.op] 50 (0, 0)) ∧ (convert 37 9 (.slice Ar L.length cpr)).run Try.prog w' = .ok (.string sL) w' ∧ (convert 37 9 (.slice Ay L.length cpy)).run Try.prog w' = .ok (.string sL) w') W10 := ⟨KX.out, KY.out, CS.out W10 Ar cpr HX.out, CS.out W10 Ay cpy HY.out⟩; dsimp only at SW10
  refine hK.out _ _ ?hS1 (fun hHeld => ?_)
  case hS1 => first | assumption
  clear hK K
  try simp only [Act.put, List.setIfInBounds_toArray, List.set_cons_zero, List.set_cons_succ]
  refine held_take 1 (some 60) (v := ?v1) rfl rfl (by kernel_rfl) (by kernel_rfl) (by kernel_rfl) (fun _ _ _ h => h) (by rfl) ?y1 (by assumption) ?_
  case y1 => ((intro w hSw); (try dsimp only at hSw); go_simp <;> (with_reducible rfl))
  try simp only [Act.put, List.setIfInBounds_toArray, List.set_cons_zero, List.set_cons_succ]
  refine held_take 2 (some 61) (v := ?v2) rfl rfl (by kernel_rfl) (by kernel_rfl) (by kernel_rfl) (fun _ _ _ h => h) (by rfl) ?y2 (by assumption) ?_
  case y2 => ((intro w hSw); (try dsimp only at hSw); go_simp <;> (with_reducible rfl))
  try simp only [Act.put, List.setIfInBounds_toArray, List.set_cons_zero, List.set_cons_succ]
  refine held_take 3 (some 62) (v := ?v3) rfl rfl (by kernel_rfl) (by kernel_rfl) (by kernel_rfl) (fun _ _ _ h => h) (by rfl) ?y3 (by assumption) ?_
  case y3 => ((intro w hSw); (try dsimp only at hSw); go_simp <;> (with_reducible rfl))
  try simp only [Act.put, List.setIfInBounds_toArray, List.set_cons_zero, List.set_cons_succ]
  refine held_take 4 (some 63) (v := ?v4) rfl rfl (by kernel_rfl) (by kernel_rfl) (by kernel_rfl) (fun _ _ _ h => h) (by rfl) ?y4 (by assumption) ?_
  case y4 => ((intro w hSw); (try dsimp only at hSw); go_simp <;> (with_reducible rfl))
  try simp only [Act.put, List.setIfInBounds_toArray, List.set_cons_zero, List.set_cons_succ]
  refine held_take 5 (some 64) (v := ?v5) rfl rfl (by kernel_rfl) (by kernel_rfl) (by kernel_rfl) (fun _ _ _ h => h) (by rfl) ?y5 (by assumption) ?_
  case y5 => ((intro w hSw); (try dsimp only at hSw); go_simp <;> (with_reducible rfl))
  try simp only [Act.put, List.setIfInBounds_toArray, List.set_cons_zero, List.set_cons_succ]
  refine held_take 6 (some 65) (v := ?v6) rfl rfl (by kernel_rfl) (by kernel_rfl) (by kernel_rfl) (fun _ _ _ h => h) (by rfl) ?y6 (by assumption) ?_
  case y6 => ((intro w hSw); (try dsimp only at hSw); go_simp <;> (with_reducible rfl))
  try simp only [Act.put, List.setIfInBounds_toArray, List.set_cons_zero, List.set_cons_succ]
  refine held_take 7 (some 66) (v := ?v7) rfl rfl (by kernel_rfl) (by kernel_rfl) (by kernel_rfl) (fun _ _ _ h => h) (by rfl) ?y7 (by assumption) ?_
  case y7 => ((intro w hSw); (try dsimp only at hSw); go_simp <;> (with_reducible rfl))
  try simp only [Act.put, List.setIfInBounds_toArray, List.set_cons_zero, List.set_cons_succ]
  refine held_take 8 (some 67) (v := ?v8) rfl rfl (by kernel_rfl) (by kernel_rfl) (by kernel_rfl) (fun _ _ _ h => h) (by rfl) ?y8 (by assumption) ?_
  case y8 => ((intro w hSw); (try dsimp only at hSw); go_simp <;> (with_reducible rfl))
  try simp only [Act.put, List.setIfInBounds_toArray, List.set_cons_zero, List.set_cons_succ]
  refine held_take 9 (some 68) (v := ?v9) rfl rfl (by kernel_rfl) (by kernel_rfl) (by kernel_rfl) (fun _ _ _ h => h) (by rfl) ?y9 (by assumption) ?_
  case y9 => ((intro w hSw); (try dsimp only at hSw); go_simp <;> (with_reducible rfl))
  try simp only [Act.put, List.setIfInBounds_toArray, List.set_cons_zero, List.set_cons_succ]
  refine held_take 10 (some 69) (v := ?v10) rfl rfl (by kernel_rfl) (by kernel_rfl) (by kernel_rfl) (fun _ _ _ h => h) (by rfl) ?y10 (by assumption) ?_
  case y10 => ((intro w hSw); (try dsimp only at hSw); go_simp <;> (with_reducible rfl))
  try simp only [Act.put, List.setIfInBounds_toArray, List.set_cons_zero, List.set_cons_succ]
  refine held_take 11 (some 70) (v := ?v11) rfl rfl (by kernel_rfl) (by kernel_rfl) (by kernel_rfl) (fun _ _ _ h => h) (by rfl) ?y11 (by assumption) ?_
  case y11 => ((intro w hSw); (try dsimp only at hSw); go_simp <;> (with_reducible rfl))
  try simp only [Act.put, List.setIfInBounds_toArray, List.set_cons_zero, List.set_cons_succ]
  refine held_take 12 (some 71) (v := ?v12) rfl rfl (by kernel_rfl) (by kernel_rfl) (by kernel_rfl) (fun _ _ _ h => h) (by rfl) ?y12 (by assumption) ?_
  case y12 => ((intro w hSw); (try dsimp only at hSw); go_simp <;> (with_reducible rfl))
  try simp only [Act.put, List.setIfInBounds_toArray, List.set_cons_zero, List.set_cons_succ]
  refine held_take 13 (some 72) (v := ?v13) rfl rfl (by kernel_rfl) (by kernel_rfl) (by kernel_rfl) (fun _ _ _ h => h) (by rfl) ?y13 (by assumption) ?_
  case y13 => ((intro w hSw); (try dsimp only at hSw); go_simp <;> (with_reducible rfl))
  try simp only [Act.put, List.setIfInBounds_toArray, List.set_cons_zero, List.set_cons_succ]
  refine held_take 14 (some 73) (v := ?v14) rfl rfl (by kernel_rfl) (by kernel_rfl) (by kernel_rfl) (fun _ _ _ h => h) (by rfl) ?y14 (by assumption) ?_
  case y14 => ((intro w hSw); (try dsimp only at hSw); go_simp <;> (with_reducible rfl))
  try simp only [Act.put, List.setIfInBounds_toArray, List.set_cons_zero, List.set_cons_succ]
  refine held_take 15 (some 74) (v := ?v15) rfl rfl (by kernel_rfl) (by kernel_rfl) (by kernel_rfl) (fun _ _ _ h => h) (by rfl) ?y15 (by assumption) ?_
  case y15 => ((intro w hSw); (try dsimp only at hSw); go_simp <;> (with_reducible rfl))
  try simp only [Act.put, List.setIfInBounds_toArray, List.set_cons_zero, List.set_cons_succ]
  refine held_take 16 (some 75) (v := ?v16) rfl rfl (by kernel_rfl) (by kernel_rfl) (by kernel_rfl) (fun _ _ _ h => h) (by rfl) ?y16 (by assumption) ?_
  case y16 => ((intro w hSw); (try dsimp only at hSw); go_simp <;> (with_reducible rfl))
  try simp only [Act.put, List.setIfInBounds_toArray, List.set_cons_zero, List.set_cons_succ]
  refine held_take 17 (some 76) (v := ?v17) rfl rfl (by kernel_rfl) (by kernel_rfl) (by kernel_rfl) (fun _ _ _ h => h) (by rfl) ?y17 (by assumption) ?_
  case y17 => ((intro w hSw); (try dsimp only at hSw); go_simp <;> (with_reducible rfl))
  try simp only [Act.put, List.setIfInBounds_toArray, List.set_cons_zero, List.set_cons_succ]
  refine held_take 18 (some 77) (v := ?v18) rfl rfl (by kernel_rfl) (by kernel_rfl) (by kernel_rfl) (fun _ _ _ h => h) (by rfl) ?y18 (by assumption) ?_
  case y18 => ((intro w hSw); (try dsimp only at hSw); go_simp <;> (with_reducible rfl))
  try simp only [Act.put, List.setIfInBounds_toArray, List.set_cons_zero, List.set_cons_succ]
  refine held_take 19 (some 78) (v := ?v19) rfl rfl (by kernel_rfl) (by kernel_rfl) (by kernel_rfl) (fun _ _ _ h => h) (by rfl) ?y19 (by assumption) ?_
  case y19 => ((intro w hSw); (try dsimp only at hSw); go_simp <;> (with_reducible rfl))
  try simp only [Act.put, List.setIfInBounds_toArray, List.set_cons_zero, List.set_cons_succ]
  refine held_take 20 (some 79) (v := ?v20) rfl rfl (by kernel_rfl) (by kernel_rfl) (by kernel_rfl) (fun _ _ _ h => h) (by rfl) ?y20 (by assumption) ?_
  case y20 => ((intro w hSw); (try dsimp only at hSw); go_simp <;> (with_reducible rfl))
  try simp only [Act.put, List.setIfInBounds_toArray, List.set_cons_zero, List.set_cons_succ]
  refine held_take 21 (some 80) (v := ?v21) rfl rfl (by kernel_rfl) (by kernel_rfl) (by kernel_rfl) (fun _ _ _ h => h) (by rfl) ?y21 (by assumption) ?_
  case y21 => ((intro w hSw); (try dsimp only at hSw); go_simp <;> (with_reducible rfl))
  try simp only [Act.put, List.setIfInBounds_toArray, List.set_cons_zero, List.set_cons_succ]
  refine held_take 22 (some 81) (v := (.agg #[.int .i64 r.e, .int .i64 r.n, (.slice A2r r.ids.length c2r), (.slice A3r r.rules.length c3r), .bool r.h, .int .i64 r.fr, .int .u32 r.ad, (.slice A7r r.dv.length c7r), .int .i64 r.ft, .int .i64 r.od, .int .i64 r.op])) rfl rfl (by kernel_rfl) (by kernel_rfl) (by kernel_rfl) (fun _ _ _ h => h) (by rfl) ?y22 (by assumption) ?_
  case y22 => ((intro w hSw); exact exec_load_row hSw.1 rfl rfl Try.underlying50 rfl (by kernel_rfl))
  try simp only [Act.put, List.setIfInBounds_toArray, List.set_cons_zero, List.set_cons_succ]
  refine held_take 23 (some 82) (v := (.agg #[.int .i64 s.e, .int .i64 s.n, (.slice A2s s.ids.length c2s), (.slice A3s s.rules.length c3s), .bool s.h, .int .i64 s.fr, .int .u32 s.ad, (.slice A7s s.dv.length c7s), .int .i64 s.ft, .int .i64 s.od, .int .i64 s.op])) rfl rfl (by kernel_rfl) (by kernel_rfl) (by kernel_rfl) (fun _ _ _ h => h) (by rfl) ?y23 (by assumption) ?_
  case y23 => ((intro w hSw); exact exec_load_row hSw.2.1 rfl rfl Try.underlying50 rfl (by kernel_rfl))
  try simp only [Act.put, List.setIfInBounds_toArray, List.set_cons_zero, List.set_cons_succ]
  refine held_take 25 (some 84) (v := (.agg #[.int .i64 r.e, .int .i64 r.n, (.slice A2r r.ids.length c2r), (.slice A3r r.rules.length c3r), .bool r.h, .int .i64 r.fr, .int .u32 r.ad, (.slice A7r r.dv.length c7r), .int .i64 r.ft, .int .i64 r.od, .int .i64 r.op])) rfl rfl (by kernel_rfl) (by kernel_rfl) (by kernel_rfl) (fun _ _ _ h => h) (by rfl) ?y25 (by assumption) ?_
  case y25 => ((intro w hSw); exact exec_load_row hSw.1 rfl rfl Try.underlying50 rfl (by kernel_rfl))
  try simp only [Act.put, List.setIfInBounds_toArray, List.set_cons_zero, List.set_cons_succ]
  refine held_take 26 (some 85) (v := (.agg #[.int .i64 s.e, .int .i64 s.n, (.slice A2s s.ids.length c2s), (.slice A3s s.rules.length c3s), .bool s.h, .int .i64 s.fr, .int .u32 s.ad, (.slice A7s s.dv.length c7s), .int .i64 s.ft, .int .i64 s.od, .int .i64 s.op])) rfl rfl (by kernel_rfl) (by kernel_rfl) (by kernel_rfl) (fun _ _ _ h => h) (by rfl) ?y26 (by assumption) ?_
  case y26 => ((intro w hSw); exact exec_load_row hSw.2.1 rfl rfl Try.underlying50 rfl (by kernel_rfl))
  try simp only [Act.put, List.setIfInBounds_toArray, List.set_cons_zero, List.set_cons_succ]
  refine wpAnyH_ready (rs := [24]) (by kernel_rfl) (by simp) ?_
  refine AllReadyH.cons rfl (fun K hK => ?_) AllReadyH.nil
  go_simp
  go_at_call 21; (with_reducible refine (CSP.out _ H2r.out H3r.out H7r.out H2s.out H3s.out H7s.out).mono ?_); rintro e W11 ⟨rfl, hb⟩; replace KX := Aside0.mk (blk_below KX.out hb); replace KY := Aside0.mk (blk_below KY.out hb); replace HB := Aside0.mk (HB.out.trans (hb.mono HB.out.size)); replace H2r := Aside0.mk (Kd.C_below H2r.out hb); replace H3r := Aside0.mk (Kd.C_below H3r.out hb); replace H7r := Aside0.mk (Kd.C_below H7r.out hb); replace H2s := Aside0.mk (Kd.C_below H2s.out hb); replace H3s := Aside0.mk (Kd.C_below H3s.out hb); replace H7s := Aside0.mk (Kd.C_below H7s.out hb); replace HX := Aside0.mk (Kd.C_below HX.out hb); replace HY := Aside0.mk (Kd.C_below HY.out hb); clear hb; have SW11 : (fun w' => w'.heap[w.heap.size]? = some (.cells #[.int .i64 r.e, .int .i64 r.n, (.slice A2r r.ids.length c2r), (.slice A3r r.rules.length c3r), .bool r.h, .int .i64 r.fr, .int .u32 r.ad, (.slice A7r r.dv.length c7r), .int .i64 r.ft, .int .i64 r.od, .int .i64 r.op] 50 (0, 0)) ∧ w'.heap[gY]? = some (.cells #[.int .i64 s.e, .int .i64 s.n, (.slice A2s s.ids.length c2s), (.slice A3s s.rules.length c3s), .bool s.h, .int .i64 s.fr, .int .u32 s.ad, (.slice A7s s.dv.length c7s), .int .i64 s.ft, .int .i64 s.od, .int .i64 s.op] 50 (0, 0)) ∧ (convert 37 9 (.slice Ar L.length cpr)).run Try.prog w' = .ok (.string sL) w' ∧ (convert 37 9 (.slice Ay L.length cpy)).run Try.prog w' = .ok (.string sL) w') W11 := ⟨KX.out, KY.out, CS.out W11 Ar cpr HX.out, CS.out W11 Ay cpy HY.out⟩; dsimp only at SW11
  refine hK.out _ _ ?hS25 (fun hHeld => ?_)
  case hS25 => first | assumption
  clear hK K
  try simp only [Act.put, List.setIfInBounds_toArray, List.set_cons_zero, List.set_cons_succ]
  refine wpAnyH_ready (rs := [27]) (by kernel_rfl) (by simp) ?_
  refine AllReadyH.cons rfl (fun K hK => ?_) AllReadyH.nil
  go_simp
  go_at_call 20; (with_reducible refine (CSR.out _ H2r.out H3r.out H7r.out H2s.out H3s.out H7s.out).mono ?_); rintro e W12 ⟨rfl, hb⟩; replace KX := Aside0.mk (blk_below KX.out hb); replace KY := Aside0.mk (blk_below KY.out hb); replace HB := Aside0.mk (HB.out.trans (hb.mono HB.out.size)); replace H2r := Aside0.mk (Kd.C_below H2r.out hb); replace H3r := Aside0.mk (Kd.C_below H3r.out hb); replace H7r := Aside0.mk (Kd.C_below H7r.out hb); replace H2s := Aside0.mk (Kd.C_below H2s.out hb); replace H3s := Aside0.mk (Kd.C_below H3s.out hb); replace H7s := Aside0.mk (Kd.C_below H7s.out hb); replace HX := Aside0.mk (Kd.C_below HX.out hb); replace HY := Aside0.mk (Kd.C_below HY.out hb); clear hb; have SW12 : (fun w' => w'.heap[w.heap.size]? = some (.cells #[.int .i64 r.e, .int .i64 r.n, (.slice A2r r.ids.length c2r), (.slice A3r r.rules.length c3r), .bool r.h, .int .i64 r.fr, .int .u32 r.ad, (.slice A7r r.dv.length c7r), .int .i64 r.ft, .int .i64 r.od, .int .i64 r.op] 50 (0, 0)) ∧ w'.heap[gY]? = some (.cells #[.int .i64 s.e, .int .i64 s.n, (.slice A2s s.ids.length c2s), (.slice A3s s.rules.length c3s), .bool s.h, .int .i64 s.fr, .int .u32 s.ad, (.slice A7s s.dv.length c7s), .int .i64 s.ft, .int .i64 s.od, .int .i64 s.op] 50 (0, 0)) ∧ (convert 37 9 (.slice Ar L.length cpr)).run Try.prog w' = .ok (.string sL) w' ∧ (convert 37 9 (.slice Ay L.length cpy)).run Try.prog w' = .ok (.string sL) w') W12 := ⟨KX.out, KY.out, CS.out W12 Ar cpr HX.out, CS.out W12 Ay cpy HY.out⟩; dsimp only at SW12
  refine hK.out _ _ ?hS28 (fun hHeld => ?_)
  case hS28 => first | assumption
  clear hK K
  try simp only [Act.put, List.setIfInBounds_toArray, List.set_cons_zero, List.set_cons_succ]
  refine held_take 28 (some 87) (v := ?v28) rfl rfl (by kernel_rfl) (by kernel_rfl) (by kernel_rfl) (fun _ _ _ h => h) (by rfl) ?y28 (by assumption) ?_
  case y28 => ((intro w hSw); (try dsimp only at hSw); go_simp <;> (with_reducible rfl))
  try simp only [Act.put, List.setIfInBounds_toArray, List.set_cons_zero, List.set_cons_succ]
  refine held_take 29 (some 88) (v := ?v29) rfl rfl (by kernel_rfl) (by kernel_rfl) (by kernel_rfl) (fun _ _ _ h => h) (by rfl) ?y29 (by assumption) ?_
  case y29 => ((intro w hSw); (try dsimp only at hSw); go_simp <;> (with_reducible rfl))
  try simp only [Act.put, List.setIfInBounds_toArray, List.set_cons_zero, List.set_cons_succ]
  refine held_take 30 (some 6) (v := ?v30) rfl rfl (by kernel_rfl) (by kernel_rfl) (by kernel_rfl) (fun _ _ _ h => h) (by rfl) ?y30 (by assumption) ?_
  case y30 => ((intro w hSw); (try dsimp only at hSw); go_simp <;> (with_reducible rfl))
  try simp only [Act.put, List.setIfInBounds_toArray, List.set_cons_zero, List.set_cons_succ]
  refine wpAnyH_done (by kernel_rfl) ?_ _
  go_wp2_with fail
  go_ret
  exact ⟨by simp, HB.out⟩
set_option maxHeartbeats 4000000 in
theorem wireResponses_row (r : Rs) (A2r : Option Addr) (c2r : Nat) (A3r : Option Addr) (c3r : Nat) (A7r : Option Addr) (c7r : Nat) (s : Rs) (A2s : Option Addr) (c2s : Nat) (A3s : Option Addr) (c3s : Nat) (A7s : Option Addr) (c7s : Nat) (A : Option Addr) (c : Nat) (l : List Int) (w : World) (hur : okRs r) (h2r : Kd.C (Kd.int .i64) w A2r r.ids.length r.ids) (g2r : r.ids.length ≤ c2r) (h3r : Kd.C k29 w A3r r.rules.length r.rules) (g3r : r.rules.length ≤ c3r) (h7r : Kd.C (Kd.int .i64) w A7r r.dv.length r.dv) (g7r : r.dv.length ≤ c7r) (hus : okRs s) (h2s : Kd.C (Kd.int .i64) w A2s s.ids.length s.ids) (g2s : s.ids.length ≤ c2s) (h3s : Kd.C k29 w A3s s.rules.length s.rules) (g3s : s.rules.length ≤ c3s) (h7s : Kd.C (Kd.int .i64) w A7s s.dv.length s.dv) (g7s : s.dv.length ≤ c7s) (hC : Kd.C (Kd.int .u8) w A l.length l) (hc : l.length ≤ c) (hby : bytes l) :
    Calls Try.prog 6 #[.agg #[.int .i64 r.e, .int .i64 r.n, (.slice A2r r.ids.length c2r), (.slice A3r r.rules.length c3r), .bool r.h, .int .i64 r.fr, .int .u32 r.ad, (.slice A7r r.dv.length c7r), .int .i64 r.ft, .int .i64 r.od, .int .i64 r.op], .agg #[.int .i64 s.e, .int .i64 s.n, (.slice A2s s.ids.length c2s), (.slice A3s s.rules.length c3s), .bool s.h, .int .i64 s.fr, .int .u32 s.ad, (.slice A7s s.dv.length c7s), .int .i64 s.ft, .int .i64 s.od, .int .i64 s.op], .slice A l.length c] w fun e w' => e = .returned (.bool true) ∧ Below w.heap.size w w' := by
  cases f1 : fitsB zRq r with
  | false => exact wireRsp_b1 r s hur hus A2r c2r A3r c3r A7r c7r A2s c2s A3s c3s A7s c7s A c l w h2r g2r h3r g3r h7r g7r h2s g2s h3s g3s h7s g7s hC hc hby f1
  | true =>
    cases f2 : fitsB zRq s with
    | false => exact wireRsp_b2 r s hur hus A2r c2r A3r c3r A7r c7r A2s c2s A3s c3s A7s c7s A c l w h2r g2r h3r g3r h7r g7r h2s g2s h3s g3s h7s g7s hC hc hby f1 f2
    | true =>
      by_cases hl : 2000 < (l.length : Int)
      · exact wireRsp_b3 r s hur hus A2r c2r A3r c3r A7r c7r A2s c2s A3s c3s A7s c7s A c l w h2r g2r h3r g3r h7r g7r h2s g2s h3s g3s h7s g7s hC hc hby f1 f2 hl
      · have q := fits_len f1
        have p := read_len hby
        rcases hE : ansOut r with ⟨L, ec⟩
        rcases hR : readOut l with ⟨u, dc⟩
        rw [hR] at p
        exact wireRsp_good r s hur hus A2r c2r A3r c3r A7r c7r A2s c2s A3s c3s A7s c7s A c l w h2r g2r h3r g3r h7r g7r h2s g2s h3s g3s h7s g7s hC hc hby L ec u dc f1 f2 hl hE hR q.1 q.2.1 q.2.2 p.1 p.2.1 p.2.2
end Go.Proofs.Ytpaknjmcjblahaa.H
