/- WirL. -/
import Derived.Test.YtpaknjmcjblahaaEWirJ
import Derived.Test.YtpaknjmcjblahaaEWirB
import Derived.Deep.RegionHeld3
import Derived.Deep.LoopGhost
namespace Go.Proofs.Ytpaknjmcjblahaa.H
open Go.RowKit Go.Proofs.Ytpaknjmcjblahaa.P Go.Proofs.YtpaknjmcjblahaaW.PrintWords Go.Proofs.YtpaknjmcjblahaaW.PrintLast Go.Proofs.YtpaknjmcjblahaaW.PrintMore
set_option linter.unusedVariables false
set_option linter.unusedSimpArgs false
set_option maxRecDepth 20000
def ansOut (r : Rs) : List Int × Int := if formedB r = true then (ansL r, 0) else ([], 171)
theorem okW_iff (r : Ru) : outR r = false ↔ okW r := by
  unfold outR
  rw [Bool.not_eq_false', allIn_iff]
  constructor
  · intro h
    exact ⟨h _ (by simp [numsR]), h _ (by simp [numsR]), h _ (by simp [numsR]), h _ (by simp [numsR]), h _ (by simp [numsR]), h _ (by simp [numsR]), h _ (by simp [numsR])⟩
  · rintro ⟨h0, h1, h2, h3, h4, h5, h6⟩ x hx
    unfold numsR at hx
    simp only [List.mem_cons, List.not_mem_nil, or_false] at hx
    rcases hx with rfl | rfl | rfl | rfl | rfl | rfl | rfl <;> assumption
theorem formS_iff (r : Rs) : formedB r = true ↔ FormS r := by
  unfold formedB
  simp only [Bool.and_eq_true, decide_eq_true_eq, allIn_iff, Bool.not_eq_true', List.any_eq_false]
  constructor
  · rintro ⟨l1, l2, l3, h1, h2, h3, h4, h5, h6⟩
    exact ⟨h1 _ (by simp), h2 _ (by simp), h3, fun x hx => (okW_iff x).1 (by simpa using h6 x hx), h4 _ (by simp), h5, h4 _ (by simp), h4 _ (by simp), h4 _ (by simp), by omega, by omega, by omega⟩
  · rintro ⟨h1, h2, h3, h4, h5, h6, h7, h8, h9, l1, l2, l3⟩
    refine ⟨by omega, by omega, by omega, ?_, ?_, h3, ?_, h6, fun x hx => by rw [(okW_iff x).2 (h4 x hx)]; simp⟩
    · intro x hx; simp only [List.mem_singleton] at hx; rw [hx]; exact h1
    · intro x hx; simp only [List.mem_singleton] at hx; rw [hx]; exact h2
    · intro x hx
      simp only [List.mem_cons, List.not_mem_nil, or_false] at hx
      rcases hx with rfl | rfl | rfl | rfl <;> assumption
theorem rul_len : ∀ (l : List Ru), (∀ x ∈ l, okW x) → ((l.map putRu).flatten).length ≤ 63 * l.length
  | [], _ => by simp
  | x :: l, h => by
    have h1 := putRu_len (h x (by simp))
    have h2 := rul_len l (fun y hy => h y (List.mem_cons_of_mem _ hy))
    rw [List.map_cons, List.flatten_cons, List.length_append, List.length_cons]; omega
theorem okRu_of {r : Ru} (h : okW r) : okRu r := by
  obtain ⟨h0, h1, h2, h3, h4, h5, h6⟩ := h
  have hw : wideW = 4294967295 := rfl
  unfold inB at h4 h5
  exact ⟨⟨h4.1, by omega⟩, h5.1, by omega⟩
theorem wput_read (A : Option Addr) (c : Nat) (l : List Int) (B : Option Addr) (d : Nat) (m L : List Int) (w : World) (hA : Kd.C (Kd.int .u8) w A l.length l) (hc : l.length ≤ c) (hB : Kd.C (Kd.int .i64) w B m.length m) (hm : ∀ x ∈ m, 0 ≤ x ∧ x < 9223372036854775808) (hl : l.length + 9 * m.length ≤ 100000) (hL : l ++ putL m = L) :
    Calls Try.prog 22 #[.slice A l.length c, .slice B m.length d] w fun e w' => (∃ A' c', e = .returned (.slice A' L.length c') ∧ L.length ≤ c' ∧ Kd.C (Kd.int .u8) w' A' L.length L) ∧ Below w.heap.size w w' := by
  refine (wput_any A c l B d m w hA hc hB hm hl).mono ?_
  rintro e w' ⟨⟨A', c', rfl, h1, h2, _⟩, hb⟩
  rw [hL] at h1 h2 ⊢
  exact ⟨⟨A', c', rfl, h1, h2⟩, hb⟩
set_option maxHeartbeats 8000000 in
theorem ans_flat (xe xn : Int) (ids : List Int) (rules : List Ru) (xh : Bool) (fr ad : Int) (dv : List Int) (ft od op : Int) (A2 : Option Addr) (c2 : Nat) (A3 : Option Addr) (c3 : Nat) (A7 : Option Addr) (c7 : Nat) (w : World) (h2 : Kd.C (Kd.int .i64) w A2 ids.length ids) (h3 : Kd.C k29 w A3 rules.length rules) (h7 : Kd.C (Kd.int .i64) w A7 dv.length dv) (hr : ∀ x ∈ rules, okRu x) (had : 0 ≤ ad ∧ ad ≤ 4294967295) :
    Calls Try.prog 17 #[.agg #[.int .i64 xe, .int .i64 xn, .slice A2 ids.length c2, .slice A3 rules.length c3, .bool xh, .int .i64 fr, .int .u32 ad, .slice A7 dv.length c7, .int .i64 ft, .int .i64 od, .int .i64 op]] w fun e w' => (∃ v, e = .returned (.tuple #[v, .int .i64 (ansOut ⟨xe, xn, ids, rules, xh, fr, ad, dv, ft, od, op⟩).2]) ∧ Kd.R (Kd.int .u8) 5 w' w.heap.size (fun _ => True) v (ansOut ⟨xe, xn, ids, rules, xh, fr, ad, dv, ft, od, op⟩).1) ∧ Below w.heap.size w w' := by
  have H2 := Aside0.mk h2
  have H3 := Aside0.mk h3
  have H7 := Aside0.mk h7
  have CF := Aside0.mk (fun (W : World) (hb : Below w.heap.size w W) => formed_flat xe xn ids rules xh fr ad dv ft od op A2 c2 A3 c3 A7 c7 W (Kd.C_below h2 hb) (Kd.C_below h3 hb) (Kd.C_below h7 hb) hr)
  have HO := Aside0.mk (show ansOut ⟨xe, xn, ids, rules, xh, fr, ad, dv, ft, od, op⟩ = if formedB ⟨xe, xn, ids, rules, xh, fr, ad, dv, ft, od, op⟩ = true then (ansL ⟨xe, xn, ids, rules, xh, fr, ad, dv, ft, od, op⟩, 0) else ([], 171) from rfl)
  have HF := Aside0.mk (fun h : formedB ⟨xe, xn, ids, rules, xh, fr, ad, dv, ft, od, op⟩ = true => (formS_iff _).1 h)
  have eA : wrap64 ad = ad := by unfold wrap64; omega
  have eA2 : IntKind.i64.wrap ad = ad := by rw [IntKind.wrap_i64]; omega
  have HAD := Aside0.mk had
  clear h2 h3 h7 hr had
  generalize ansOut ⟨xe, xn, ids, rules, xh, fr, ad, dv, ft, od, op⟩ = OUT at *
  have HB := Aside0.mk ((Below.refl w.heap.size w).alloc (Nat.le_refl _) (.cells #[.int .i64 xe, .int .i64 xn, .slice A2 ids.length c2, .slice A3 rules.length c3, .bool xh, .int .i64 fr, .int .u32 ad, .slice A7 dv.length c7, .int .i64 ft, .int .i64 od, .int .i64 op] 50))
  have KX := Aside0.mk (blk_new w (.cells #[.int .i64 xe, .int .i64 xn, .slice A2 ids.length c2, .slice A3 rules.length c3, .bool xh, .int .i64 fr, .int .u32 ad, .slice A7 dv.length c7, .int .i64 ft, .int .i64 od, .int .i64 op] 50))
  go_enter Try.func17, Try.ntmps17
  try dsimp only
  repeat ((fail_if_success (show Code.wp _ (Code.seq (Code.region 1 _ _) _) _ _ _)); (first | go_values | go_skip | go_guarded | go_step | go_upon | go_back))
  generalize (w.alloc (.cells #[.int .i64 xe, .int .i64 xn, .slice A2 ids.length c2, .slice A3 rules.length c3, .bool xh, .int .i64 fr, .int .u32 ad, .slice A7 dv.length c7, .int .i64 ft, .int .i64 od, .int .i64 op] 50)) = W0 at *
  try dsimp only
  repeat ((fail_if_success (show Oper.wp _ (Oper.mk _ (Op.load 50 _) _ _ _ _) _ _ _ _)); (first | go_values | go_skip | go_guarded | go_step | go_upon | go_back))
  refine wp_load_row KX.out rfl rfl Try.underlying50 rfl (by kernel_rfl) ?_
  try go_simp
  go_wp2_with fail
  refine (CF.out W0 HB.out).mono ?_
  rintro e W1 ⟨rfl, hb⟩
  replace KX := Aside0.mk (blk_below KX.out hb)
  replace HB := Aside0.mk (HB.out.trans (hb.mono HB.out.size))
  clear hb CF
  cases hq : formedB ⟨xe, xn, ids, rules, xh, fr, ad, dv, ft, od, op⟩ with
  | false =>
    replace HO := Aside0.mk (HO.out.trans (if_neg (by rw [hq]; simp)))
    clear hq HF
    go_wp2_with fail
    go_ret2
    exact ⟨⟨_, by rw [HO.out]; rfl, by rw [HO.out]; exact Kd.R_nil _ _ _ _ _⟩, HB.out⟩
  | true =>
    have F := HF.out hq
    replace HO := Aside0.mk (HO.out.trans (if_pos hq))
    clear hq HF
    have hw : wideW = 4294967295 := rfl
    have k1 := F.e; have k2 := F.n; have k3 := F.ids; have k4 := F.rules; have k5 := F.fr; have k6 := F.dv; have k7 := F.ft; have k8 := F.od; have k9 := F.op; have l1 := F.l1; have l2 := F.l2; have l3 := F.l3
    unfold inB at k1 k2 k3 k5 k6 k7 k8 k9
    simp only [] at k1 k2 k3 k4 k5 k6 k7 k8 k9 l1 l2 l3
    have LL1 := Aside0.mk l1
    have LL2 := Aside0.mk l2
    have LL3 := Aside0.mk l3
    have HR4 := Aside0.mk k4
    have okI := Aside0.mk (show ∀ x ∈ ids, 0 ≤ x ∧ x < 9223372036854775808 from fun x hx => by have := k3 x hx; omega)
    have okD := Aside0.mk (show ∀ x ∈ dv, 0 ≤ x ∧ x < 9223372036854775808 from fun x hx => by have := k6 x hx; omega)
    have pI := Aside0.mk (putL_len ids (fun x hx => by have := k3 x hx; omega))
    have pD := Aside0.mk (putL_len dv (fun x hx => by have := k6 x hx; omega))
    have pR := Aside0.mk (rul_len rules k4)
    obtain ⟨M1, hM1⟩ : ∃ M, putL [xe, xn, (ids.length : Int)] = M := ⟨_, rfl⟩
    obtain ⟨M2, hM2⟩ : ∃ M, M1 ++ putL ids = M := ⟨_, rfl⟩
    obtain ⟨M3, hM3⟩ : ∃ M, M2 ++ putL [(rules.length : Int)] = M := ⟨_, rfl⟩
    have g1 : M1.length ≤ 27 := by rw [← hM1]; have := putL_len [xe, xn, (ids.length : Int)] (by intro x hx; simp only [List.mem_cons, List.not_mem_nil, or_false] at hx; rcases hx with rfl | rfl | rfl <;> omega); simpa using this
    have g2 : M2.length ≤ 927 := by rw [← hM2, List.length_append]; have := pI.out; omega
    have g3 : M3.length ≤ 936 := by rw [← hM3, List.length_append]; have := putL_len [(rules.length : Int)] (by intro x hx; simp only [List.mem_singleton] at hx; subst hx; omega); simp at this; omega
    have G1 := Aside0.mk g1
    have G2 := Aside0.mk g2
    have G3 := Aside0.mk g3
    have P1 := Aside0.mk (show ∀ W : World, Calls Try.prog 22 #[.slice none 0 0, .slice (some ⟨W.heap.size, 0, none⟩) 3 3] (W.alloc (.cells #[.int .i64 xe, .int .i64 xn, .int .i64 ids.length] 3)) (fun e w' => (∃ A' c', e = .returned (.slice A' M1.length c') ∧ M1.length ≤ c' ∧ Kd.C (Kd.int .u8) w' A' M1.length M1 ∧ Kd.R (Kd.int .u8) 5 w' W.heap.size (fun _ => True) (.slice A' M1.length c') M1) ∧ Below W.heap.size W w') from fun W => wput_lit none 0 [] [xe, xn, (ids.length : Int)] M1 (by intro x hx; simp only [List.mem_cons, List.not_mem_nil, or_false] at hx; rcases hx with rfl | rfl | rfl <;> omega) (by simp) (by simp) (by simp) (by simp [hM1]) W (nilC W) (by simp))
    have P2 := Aside0.mk (show ∀ (A : Option Addr) (c : Nat) (W : World), Below w.heap.size w W → Kd.C (Kd.int .u8) W A M1.length M1 → M1.length ≤ c → Calls Try.prog 22 #[.slice A M1.length c, .slice A2 ids.length c2] W (fun e w' => (∃ A' c', e = .returned (.slice A' M2.length c') ∧ M2.length ≤ c' ∧ Kd.C (Kd.int .u8) w' A' M2.length M2) ∧ Below W.heap.size W w') from fun A c W hb hA hc => wput_read A c M1 A2 c2 ids M2 W hA hc (Kd.C_below H2.out hb) okI.out (by have := G1.out; have := LL1.out; omega) hM2)
    have P3 := Aside0.mk (show ∀ (A : Option Addr) (c : Nat) (W : World), Kd.C (Kd.int .u8) W A M2.length M2 → M2.length ≤ c → Calls Try.prog 22 #[.slice A M2.length c, .slice (some ⟨W.heap.size, 0, none⟩) 1 1] (W.alloc (.cells #[.int .i64 rules.length] 3)) (fun e w' => (∃ A' c', e = .returned (.slice A' M3.length c') ∧ M3.length ≤ c' ∧ Kd.C (Kd.int .u8) w' A' M3.length M3 ∧ Kd.R (Kd.int .u8) 5 w' W.heap.size (fun _ => True) (.slice A' M3.length c') M3) ∧ Below W.heap.size W w') from fun A c W hA hc => wput_lit A c M2 [(rules.length : Int)] M3 (by intro x hx; simp only [List.mem_singleton] at hx; subst hx; omega) (by simp) (by simp) (by have := G2.out; omega) (hM3) W hA hc)
    obtain ⟨R0, hR0⟩ : ∃ M, M3 ++ (rules.map putRu).flatten = M := ⟨_, rfl⟩
    obtain ⟨M5, hM5⟩ : ∃ M, R0 ++ putL [b01 xh, fr, ad, (dv.length : Int)] = M := ⟨_, rfl⟩
    obtain ⟨M6, hM6⟩ : ∃ M, M5 ++ putL dv = M := ⟨_, rfl⟩
    obtain ⟨M7, hM7⟩ : ∃ M, M6 ++ putL [ft, od, op] = M := ⟨_, rfl⟩
    have hb0 : 0 ≤ b01 xh ∧ b01 xh ≤ 1 := by cases xh <;> decide
    have g4 : R0.length ≤ 7236 := by rw [← hR0, List.length_append]; have := pR.out; omega
    have g5 : M5.length ≤ 7272 := by rw [← hM5, List.length_append]; have := putL_len [b01 xh, fr, ad, (dv.length : Int)] (by have := HAD.out; intro x hx; simp only [List.mem_cons, List.not_mem_nil, or_false] at hx; rcases hx with rfl | rfl | rfl | rfl <;> omega); simp at this; omega
    have g6 : M6.length ≤ 8172 := by rw [← hM6, List.length_append]; have := pD.out; omega
    have G4 := Aside0.mk g4
    have G5 := Aside0.mk g5
    have G6 := Aside0.mk g6
    have had := HAD.out
    have P50 := Aside0.mk (show b01 xh = 0 → ∀ (A : Option Addr) (c : Nat) (W : World), Kd.C (Kd.int .u8) W A R0.length R0 → R0.length ≤ c → Calls Try.prog 22 #[.slice A R0.length c, .slice (some ⟨W.heap.size, 0, none⟩) 4 4] (W.alloc (.cells #[.int .i64 0, .int .i64 fr, .int .i64 ad, .int .i64 dv.length] 3)) (fun e w' => (∃ A' c', e = .returned (.slice A' M5.length c') ∧ M5.length ≤ c' ∧ Kd.C (Kd.int .u8) w' A' M5.length M5 ∧ Kd.R (Kd.int .u8) 5 w' W.heap.size (fun _ => True) (.slice A' M5.length c') M5) ∧ Below W.heap.size W w') from fun hx A c W hA hc => wput_lit A c R0 [(0 : Int), fr, ad, (dv.length : Int)] M5 (by intro x hx; simp only [List.mem_cons, List.not_mem_nil, or_false] at hx; rcases hx with rfl | rfl | rfl | rfl <;> omega) (by simp) (by simp) (by have := G4.out; omega) (by rw [← hM5, hx]) W hA hc)
    have P51 := Aside0.mk (show b01 xh = 1 → ∀ (A : Option Addr) (c : Nat) (W : World), Kd.C (Kd.int .u8) W A R0.length R0 → R0.length ≤ c → Calls Try.prog 22 #[.slice A R0.length c, .slice (some ⟨W.heap.size, 0, none⟩) 4 4] (W.alloc (.cells #[.int .i64 1, .int .i64 fr, .int .i64 ad, .int .i64 dv.length] 3)) (fun e w' => (∃ A' c', e = .returned (.slice A' M5.length c') ∧ M5.length ≤ c' ∧ Kd.C (Kd.int .u8) w' A' M5.length M5 ∧ Kd.R (Kd.int .u8) 5 w' W.heap.size (fun _ => True) (.slice A' M5.length c') M5) ∧ Below W.heap.size W w') from fun hx A c W hA hc => wput_lit A c R0 [(1 : Int), fr, ad, (dv.length : Int)] M5 (by intro x hx; simp only [List.mem_cons, List.not_mem_nil, or_false] at hx; rcases hx with rfl | rfl | rfl | rfl <;> omega) (by simp) (by simp) (by have := G4.out; omega) (by rw [← hM5, hx]) W hA hc)
    have P6 := Aside0.mk (show ∀ (A : Option Addr) (c : Nat) (W : World), Below w.heap.size w W → Kd.C (Kd.int .u8) W A M5.length M5 → M5.length ≤ c → Calls Try.prog 22 #[.slice A M5.length c, .slice A7 dv.length c7] W (fun e w' => (∃ A' c', e = .returned (.slice A' M6.length c') ∧ M6.length ≤ c' ∧ Kd.C (Kd.int .u8) w' A' M6.length M6) ∧ Below W.heap.size W w') from fun A c W hb hA hc => wput_read A c M5 A7 c7 dv M6 W hA hc (Kd.C_below H7.out hb) okD.out (by have := G5.out; have := LL3.out; omega) hM6)
    have P7 := Aside0.mk (show ∀ (A : Option Addr) (c : Nat) (W : World), Kd.C (Kd.int .u8) W A M6.length M6 → M6.length ≤ c → Calls Try.prog 22 #[.slice A M6.length c, .slice (some ⟨W.heap.size, 0, none⟩) 3 3] (W.alloc (.cells #[.int .i64 ft, .int .i64 od, .int .i64 op] 3)) (fun e w' => (∃ A' c', e = .returned (.slice A' M7.length c') ∧ M7.length ≤ c' ∧ Kd.C (Kd.int .u8) w' A' M7.length M7 ∧ Kd.R (Kd.int .u8) 5 w' W.heap.size (fun _ => True) (.slice A' M7.length c') M7) ∧ Below W.heap.size W w') from fun A c W hA hc => wput_lit A c M6 [ft, od, op] M7 (by intro x hx; simp only [List.mem_cons, List.not_mem_nil, or_false] at hx; rcases hx with rfl | rfl | rfl <;> omega) (by simp) (by simp) (by have := G6.out; omega) (hM7) W hA hc)
    have HA := Aside0.mk (show ansL ⟨xe, xn, ids, rules, xh, fr, ad, dv, ft, od, op⟩ = M7 from by
      unfold ansL
      rw [← hM7, ← hM6, ← hM5, ← hR0, ← hM3, ← hM2, ← hM1]
      simp [putL])
    have HR0 := Aside0.mk hR0
    clear hM1 hM2 hM3 hM5 hM6 hM7 hR0 g1 g2 g3 g4 g5 g6 k1 k2 k3 k4 k5 k6 k7 k8 k9 l1 l2 l3 hw hb0 had pI pD pR
    have KXd := Aside0.mk (blk_below KX.out (below_drew (Below.refl W1.heap.size W1)))
    have HBd := Aside0.mk (below_drew HB.out)
    have y0 := blk_cell KX.out 0
    have y1 := blk_cell KX.out 1
    have y2 := blk_cell KX.out 2
    have P1d := Aside0.mk (show Calls Try.prog 22 #[.slice none 0 0, .slice (some ⟨W1.heap.size, 0, none⟩) 3 3] (W1.alloc (.cells #[.int .i64 xe, .int .i64 xn, .int .i64 ids.length] 3)).drew (fun e w' => (∃ A' c', e = .returned (.slice A' M1.length c') ∧ M1.length ≤ c' ∧ Kd.C (Kd.int .u8) w' A' M1.length M1 ∧ Kd.R (Kd.int .u8) 5 w' W1.drew.heap.size (fun _ => True) (.slice A' M1.length c') M1) ∧ Below W1.drew.heap.size W1.drew w') from P1.out W1.drew)
    clear P1
    go_wp2_with fail
    go_cut [4] from 9 (fun v4 W => ∃ A c, v4 = .slice A M2.length c ∧ Aside0 (M2.length ≤ c) ∧ Aside0 (Kd.C (Kd.int .u8) W A M2.length M2) ∧ Aside0 (W.heap[w.heap.size]? = some (.cells #[.int .i64 xe, .int .i64 xn, .slice A2 ids.length c2, .slice A3 rules.length c3, .bool xh, .int .i64 fr, .int .u32 ad, .slice A7 dv.length c7, .int .i64 ft, .int .i64 od, .int .i64 op] 50 (0, 0))) ∧ Aside0 (Below w.heap.size w W))
    case first =>
      go_region_held3 (fun w' => w'.cell? ⟨w.heap.size, 0, none⟩ = some (.int .i64 xe) ∧ w'.cell? ⟨w.heap.size, 1, none⟩ = some (.int .i64 xn) ∧ w'.cell? ⟨w.heap.size, 2, none⟩ = some (.slice A2 ids.length c2)) (first | assumption | go_keep) (first
        | (go_at_call 22; (with_reducible refine P1d.out.mono ?_); rintro e W2 ⟨⟨A4, c4, rfl, hl4, hC4, hR4⟩, hb⟩; have KX2 := Aside0.mk (blk_below KXd.out hb); have HB2 := Aside0.mk (HBd.out.trans (hb.mono HBd.out.size)); have HL4 := Aside0.mk hl4; have HC4 := Aside0.mk hC4; clear hb hl4 hC4 hR4; have KK : W2.cell? ⟨w.heap.size, 0, none⟩ = some (.int .i64 xe) ∧ W2.cell? ⟨w.heap.size, 1, none⟩ = some (.int .i64 xn) ∧ W2.cell? ⟨w.heap.size, 2, none⟩ = some (.slice A2 ids.length c2) := ⟨blk_cell KX2.out 0, blk_cell KX2.out 1, blk_cell KX2.out 2⟩)
        | (go_at_call 22; (with_reducible refine (P2.out A4 c4 _ HB2.out HC4.out HL4.out).mono ?_); rintro e W3 ⟨⟨A5, c5, rfl, hl5, hC5⟩, hb⟩; have KX3 := Aside0.mk (blk_below KX2.out hb); have HB3 := Aside0.mk (HB2.out.trans (hb.mono HB2.out.size)); have HL5 := Aside0.mk hl5; have HC5 := Aside0.mk hC5; clear hb hl5 hC5; have KK : W3.cell? ⟨w.heap.size, 0, none⟩ = some (.int .i64 xe) ∧ W3.cell? ⟨w.heap.size, 1, none⟩ = some (.int .i64 xn) ∧ W3.cell? ⟨w.heap.size, 2, none⟩ = some (.slice A2 ids.length c2) := ⟨blk_cell KX3.out 0, blk_cell KX3.out 1, blk_cell KX3.out 2⟩))
      all_goals (go_wp2_with fail; go_meet; case rel => exact ⟨A5, c5, rfl, HL5, HC5, KX3, HB3⟩)
    case rest =>
    obtain ⟨A4, c4, rfl, HL, HC, KX, HB⟩ := hcut
    clear y0 y1 y2 KXd HBd P1d P2
    rename_i wc _
    generalize wc = W2 at *
    have y3 := blk_cell KX.out 3
    go_wp2_with fail
    refine (P3.out A4 c4 W2 HC.out HL.out).mono ?_
    rintro e W3 ⟨⟨A5, c5, rfl, hl5, hC5, hR5⟩, hb⟩
    replace KX := Aside0.mk (blk_below KX.out hb)
    replace HB := Aside0.mk (HB.out.trans (hb.mono HB.out.size))
    replace HL := Aside0.mk hl5
    replace HC := Aside0.mk hC5
    clear hb hl5 hC5 hR5 P3 y3
    have y3 := blk_cell KX.out 3
    try dsimp only
    repeat ((fail_if_success (show Code.wp _ (Code.seq (Code.region 6 _ _) _) _ _ _)); (first | go_values | go_skip | go_guarded | go_step | go_upon | go_back))
    go_loopw [4, 6, 33] (fun b _ i wr => ∃ (j : Nat) (A' : Option Addr) (c' : Nat) (bs : List Int), b = .slice A' bs.length c' ∧ i = .int .i64 j ∧ j ≤ rules.length ∧ Aside0 (bs.length ≤ c') ∧ Aside0 (Kd.C (Kd.int .u8) wr A' bs.length bs) ∧ Aside0 (bs = M3 ++ ((rules.take j).map putRu).flatten) ∧ Aside0 (wr.heap[w.heap.size]? = some (.cells #[.int .i64 xe, .int .i64 xn, .slice A2 ids.length c2, .slice A3 rules.length c3, .bool xh, .int .i64 fr, .int .u32 ad, .slice A7 dv.length c7, .int .i64 ft, .int .i64 od, .int .i64 op] 50 (0, 0))) ∧ Aside0 (Below w.heap.size w wr)) (fun _ _ i _ => rules.length - (intOf i).toNat)
    case atStart => exact ⟨0, A5, c5, M3, rfl, rfl, Nat.zero_le _, HL, HC, ⟨by simp⟩, KX, HB⟩
    case round =>
      clear HL HC KX HB y3
      obtain ⟨j, A', c', bs, rfl, rfl, hj, HL, HC, HE, KX, HB⟩ := hrel
      by_cases h1 : j < rules.length
      · have h1z : (j : Int) < (rules.length : Int) := by omega
        obtain ⟨adr, e, x0, x1, x2, x3, x4, x5, x6⟩ := at_T29 (Kd.C_below H3.out HB.out) (j : Int) (by omega) (by omega)
        cases e
        (try rw [Int.toNat_natCast] at x0)
        (try rw [Int.toNat_natCast] at x1); (try rw [Int.toNat_natCast] at x2); (try rw [Int.toNat_natCast] at x3); (try rw [Int.toNat_natCast] at x4); (try rw [Int.toNat_natCast] at x5); (try rw [Int.toNat_natCast] at x6)
        have HM := Aside0.mk (show rd_T29 rules (j : Int) ∈ rules ∧ rules.take (j + 1) = rules.take j ++ [rd_T29 rules (j : Int)] from by
          unfold rd_T29
          rw [Int.toNat_natCast, List.getD_eq_getElem?_getD, List.getElem?_eq_getElem h1]
          exact ⟨List.getElem_mem _, by rw [List.take_succ_eq_append_getElem h1]; rfl⟩)
        have hyw := HR4.out _ HM.out.1
        have hbl : bs.length ≤ 936 + 63 * j := by
          rw [HE.out, List.length_append]
          have := rul_len (rules.take j) (fun x hx => HR4.out x (List.mem_of_mem_take hx))
          rw [List.length_take] at this
          have := G3.out
          omega
        generalize rd_T29 rules (j : Int) = y at *
        have PN := Aside0.mk (show ∀ W : World, Calls Try.prog 25 #[.agg #[.int .i64 y.f0, .int .i64 y.f1, .int .i64 y.f2, .int .i64 y.f3, .int .u32 y.f4.f0, .int .u32 y.f4.f1, .int .i64 y.f5]] W (fun e w' => (∃ A c, e = .returned (.slice A 7 c) ∧ 7 ≤ c ∧ Kd.C (Kd.int .i64) w' A 7 (numsR y)) ∧ Below W.heap.size W w') from fun W => nums_any y (okRu_of hyw) W)
        have HE2 := Aside0.mk (show bs ++ putL (numsR y) = M3 ++ ((rules.take (j + 1)).map putRu).flatten from by rw [HM.out.2, HE.out]; simp [putRu])
        obtain ⟨b2, hb2⟩ : ∃ b, bs ++ putL (numsR y) = b := ⟨_, rfl⟩
        rw [hb2] at HE2
        have P4 := Aside0.mk (show ∀ (B : Option Addr) (d : Nat) (W : World), Kd.C (Kd.int .u8) W A' bs.length bs → Kd.C (Kd.int .i64) W B 7 (numsR y) → Calls Try.prog 22 #[.slice A' bs.length c', .slice B 7 d] W (fun e w' => (∃ A' c', e = .returned (.slice A' b2.length c') ∧ b2.length ≤ c' ∧ Kd.C (Kd.int .u8) w' A' b2.length b2) ∧ Below W.heap.size W w') from fun B d W h1 h3 => wput_read A' c' bs B d (numsR y) b2 W h1 HL.out h3 (numsR_ok hyw) (by have := LL2.out; have : (numsR y).length = 7 := rfl; omega) hb2)
        have HJ := Aside0.mk h1
        have hw := wr1 j (by have := LL2.out; omega)
        clear hyw hbl HM HE hb2
        have HB2 := Aside0.mk ((Below.refl wr.heap.size wr).alloc (Nat.le_refl _) (.cells #[.int .i64 y.f0, .int .i64 y.f1, .int .i64 y.f2, .int .i64 y.f3, .int .u32 y.f4.f0, .int .u32 y.f4.f1, .int .i64 y.f5] 29))
        go_wp2_with fail
        refine (PN.out _).mono ?_
        rintro e W4 ⟨⟨B, d, rfl, h6, hC6⟩, hb⟩
        have hbb := HB2.out.trans (hb.mono HB2.out.size)
        replace KX := Aside0.mk (blk_below KX.out hbb)
        replace HC := Aside0.mk (Kd.C_below HC.out hbb)
        replace HB := Aside0.mk (HB.out.trans (hbb.mono HB.out.size))
        have HC6 := Aside0.mk hC6
        clear hb hbb h6 hC6 PN x0 x1 x2 x3 x4 x5 x6
        go_wp2_with fail
        refine (P4.out B d W4 HC.out HC6.out).mono ?_
        rintro e W5 ⟨⟨A6, c6, rfl, h6, h7⟩, hb⟩
        replace KX := Aside0.mk (blk_below KX.out hb)
        replace HB := Aside0.mk (HB.out.trans (hb.mono HB.out.size))
        have HL6 := Aside0.mk h6
        have HC7 := Aside0.mk h7
        clear hb h6 h7 P4 HC6 HC HL HB2
        go_wp2_with fail
        go_roundw
        case rel => exact ⟨j + 1, A6, c6, b2, rfl, by go_num, HJ.out, HL6, HC7, HE2, KX, HB⟩
        case measure => (try rw [hw]); simp only [intOf]; have := HJ.out; omega
      · have h1z : ¬ (j : Int) < (rules.length : Int) := by omega
        have hjm : j = rules.length := by omega
        have HE2 := Aside0.mk (show bs = R0 from by rw [HE.out, hjm, List.take_length, HR0.out])
        replace HC := Aside0.mk (show Kd.C (Kd.int .u8) wr A' R0.length R0 from HE2.out ▸ HC.out)
        replace HL := Aside0.mk (show R0.length ≤ c' from HE2.out ▸ HL.out)
        rw [HE2.out]
        clear HE hjm HE2 HR0
        have z4 := blk_cell KX.out 4
        cases xh with
        | false =>
          have z7 := blk_cell KX.out 7
          have z8 := blk_cell KX.out 8
          have z9 := blk_cell KX.out 9
          have z10 := blk_cell KX.out 10
          try dsimp only
          repeat ((fail_if_success (show Code.wp _ (Code.seq (Code.region 14 _ _) _) _ _ _)); (first | go_values | go_skip | go_guarded | go_step | go_upon | go_back))
          have hbt := (Below.refl wr.heap.size wr).alloc (Nat.le_refl _) (.cells #[.slice A7 dv.length c7, .int .i64 ft, .int .i64 od, .int .i64 op] 46)
          have KT := Aside0.mk (blk_new wr (.cells #[.slice A7 dv.length c7, .int .i64 ft, .int .i64 od, .int .i64 op] 46))
          have KX2 := Aside0.mk (blk_below KX.out hbt)
          have HC2 := Aside0.mk (Kd.C_below HC.out hbt)
          have HB2 := Aside0.mk (HB.out.trans (hbt.mono HB.out.size))
          clear hbt z4 z7 z8 z9 z10
          obtain ⟨bt, hbt⟩ : ∃ b, wr.heap.size = b := ⟨_, rfl⟩
          generalize (wr.alloc (.cells #[.slice A7 dv.length c7, .int .i64 ft, .int .i64 od, .int .i64 op] 46)) = V1 at *
          rw [hbt] at KT ⊢
          clear hbt
          have q5 := blk_cell KX2.out 5
          have q6 := blk_cell KX2.out 6
          have q7 := blk_cell KT.out 0
          have HBd := Aside0.mk (below_drew HB2.out)
          have KXd := Aside0.mk (blk_below KX2.out (below_drew (Below.refl V1.heap.size V1)))
          have KTd := Aside0.mk (blk_below KT.out (below_drew (Below.refl V1.heap.size V1)))
          have HCd := Aside0.mk (Kd.C_below HC2.out (below_drew (Below.refl V1.heap.size V1)))
          have P5d := Aside0.mk (show Calls Try.prog 22 #[.slice A' R0.length c', .slice (some ⟨V1.heap.size, 0, none⟩) 4 4] (V1.alloc (.cells #[.int .i64 0, .int .i64 fr, .int .i64 ad, .int .i64 dv.length] 3)).drew (fun e w' => (∃ A' c', e = .returned (.slice A' M5.length c') ∧ M5.length ≤ c' ∧ Kd.C (Kd.int .u8) w' A' M5.length M5 ∧ Kd.R (Kd.int .u8) 5 w' V1.drew.heap.size (fun _ => True) (.slice A' M5.length c') M5) ∧ Below V1.drew.heap.size V1.drew w') from P50.out rfl A' c' V1.drew HCd.out HL.out)
          go_wp2_with fail
          go_region_held3 (fun w' => w'.cell? ⟨w.heap.size, 5, none⟩ = some (.int .i64 fr) ∧ w'.cell? ⟨w.heap.size, 6, none⟩ = some (.int .u32 ad) ∧ w'.cell? ⟨bt, 0, none⟩ = some (.slice A7 dv.length c7)) (first | assumption | go_keep) (first
            | (go_at_call 22; (with_reducible refine P5d.out.mono ?_); rintro e V2 ⟨⟨A6, c6, rfl, hl6, hC6, hR6⟩, hb⟩; have KX3 := Aside0.mk (blk_below KXd.out hb); have KT3 := Aside0.mk (blk_below KTd.out hb); have HB3 := Aside0.mk (HBd.out.trans (hb.mono HBd.out.size)); have HL6 := Aside0.mk hl6; have HC6 := Aside0.mk hC6; clear hb hl6 hC6 hR6; have KK : V2.cell? ⟨w.heap.size, 5, none⟩ = some (.int .i64 fr) ∧ V2.cell? ⟨w.heap.size, 6, none⟩ = some (.int .u32 ad) ∧ V2.cell? ⟨bt, 0, none⟩ = some (.slice A7 dv.length c7) := ⟨blk_cell KX3.out 5, blk_cell KX3.out 6, blk_cell KT3.out 0⟩)
            | (go_at_call 22; (with_reducible refine (P6.out A6 c6 _ HB3.out HC6.out HL6.out).mono ?_); rintro e V3 ⟨⟨A8, c8, rfl, hl8, hC8⟩, hb⟩; have KX4 := Aside0.mk (blk_below KX3.out hb); have KT4 := Aside0.mk (blk_below KT3.out hb); have HB4 := Aside0.mk (HB3.out.trans (hb.mono HB3.out.size)); have HL8 := Aside0.mk hl8; have HC8 := Aside0.mk hC8; clear hb hl8 hC8; have KK : V3.cell? ⟨w.heap.size, 5, none⟩ = some (.int .i64 fr) ∧ V3.cell? ⟨w.heap.size, 6, none⟩ = some (.int .u32 ad) ∧ V3.cell? ⟨bt, 0, none⟩ = some (.slice A7 dv.length c7) := ⟨blk_cell KX4.out 5, blk_cell KX4.out 6, blk_cell KT4.out 0⟩))
          have s1 := blk_cell KT4.out 1
          have s2 := blk_cell KT4.out 2
          have s3 := blk_cell KT4.out 3
          go_wp2_with fail
          refine (P7.out A8 c8 V3 HC8.out HL8.out).mono ?_
          rintro e V4 ⟨⟨A9, c9, rfl, hl9, hC9, hR9⟩, hb⟩
          have HR9 := Aside0.mk (Kd.R_lower hR9 HB4.out.size)
          have HB9 := Aside0.mk (HB4.out.trans (hb.mono HB4.out.size))
          clear hb hl9 hC9 hR9
          go_wp2_with fail
          go_ret2
          exact ⟨⟨_, by rw [HO.out]; rfl, by rw [HO.out, HA.out]; exact HR9.out⟩, HB9.out⟩
        | true =>
          have z7 := blk_cell KX.out 7
          have z8 := blk_cell KX.out 8
          have z9 := blk_cell KX.out 9
          have z10 := blk_cell KX.out 10
          try dsimp only
          repeat ((fail_if_success (show Code.wp _ (Code.seq (Code.region 14 _ _) _) _ _ _)); (first | go_values | go_skip | go_guarded | go_step | go_upon | go_back))
          have hbt := (Below.refl wr.heap.size wr).alloc (Nat.le_refl _) (.cells #[.slice A7 dv.length c7, .int .i64 ft, .int .i64 od, .int .i64 op] 46)
          have KT := Aside0.mk (blk_new wr (.cells #[.slice A7 dv.length c7, .int .i64 ft, .int .i64 od, .int .i64 op] 46))
          have KX2 := Aside0.mk (blk_below KX.out hbt)
          have HC2 := Aside0.mk (Kd.C_below HC.out hbt)
          have HB2 := Aside0.mk (HB.out.trans (hbt.mono HB.out.size))
          clear hbt z4 z7 z8 z9 z10
          obtain ⟨bt, hbt⟩ : ∃ b, wr.heap.size = b := ⟨_, rfl⟩
          generalize (wr.alloc (.cells #[.slice A7 dv.length c7, .int .i64 ft, .int .i64 od, .int .i64 op] 46)) = V1 at *
          rw [hbt] at KT ⊢
          clear hbt
          have q5 := blk_cell KX2.out 5
          have q6 := blk_cell KX2.out 6
          have q7 := blk_cell KT.out 0
          have HBd := Aside0.mk (below_drew HB2.out)
          have KXd := Aside0.mk (blk_below KX2.out (below_drew (Below.refl V1.heap.size V1)))
          have KTd := Aside0.mk (blk_below KT.out (below_drew (Below.refl V1.heap.size V1)))
          have HCd := Aside0.mk (Kd.C_below HC2.out (below_drew (Below.refl V1.heap.size V1)))
          have P5d := Aside0.mk (show Calls Try.prog 22 #[.slice A' R0.length c', .slice (some ⟨V1.heap.size, 0, none⟩) 4 4] (V1.alloc (.cells #[.int .i64 1, .int .i64 fr, .int .i64 ad, .int .i64 dv.length] 3)).drew (fun e w' => (∃ A' c', e = .returned (.slice A' M5.length c') ∧ M5.length ≤ c' ∧ Kd.C (Kd.int .u8) w' A' M5.length M5 ∧ Kd.R (Kd.int .u8) 5 w' V1.drew.heap.size (fun _ => True) (.slice A' M5.length c') M5) ∧ Below V1.drew.heap.size V1.drew w') from P51.out rfl A' c' V1.drew HCd.out HL.out)
          go_wp2_with fail
          go_region_held3 (fun w' => w'.cell? ⟨w.heap.size, 5, none⟩ = some (.int .i64 fr) ∧ w'.cell? ⟨w.heap.size, 6, none⟩ = some (.int .u32 ad) ∧ w'.cell? ⟨bt, 0, none⟩ = some (.slice A7 dv.length c7)) (first | assumption | go_keep) (first
            | (go_at_call 22; (with_reducible refine P5d.out.mono ?_); rintro e V2 ⟨⟨A6, c6, rfl, hl6, hC6, hR6⟩, hb⟩; have KX3 := Aside0.mk (blk_below KXd.out hb); have KT3 := Aside0.mk (blk_below KTd.out hb); have HB3 := Aside0.mk (HBd.out.trans (hb.mono HBd.out.size)); have HL6 := Aside0.mk hl6; have HC6 := Aside0.mk hC6; clear hb hl6 hC6 hR6; have KK : V2.cell? ⟨w.heap.size, 5, none⟩ = some (.int .i64 fr) ∧ V2.cell? ⟨w.heap.size, 6, none⟩ = some (.int .u32 ad) ∧ V2.cell? ⟨bt, 0, none⟩ = some (.slice A7 dv.length c7) := ⟨blk_cell KX3.out 5, blk_cell KX3.out 6, blk_cell KT3.out 0⟩)
            | (go_at_call 22; (with_reducible refine (P6.out A6 c6 _ HB3.out HC6.out HL6.out).mono ?_); rintro e V3 ⟨⟨A8, c8, rfl, hl8, hC8⟩, hb⟩; have KX4 := Aside0.mk (blk_below KX3.out hb); have KT4 := Aside0.mk (blk_below KT3.out hb); have HB4 := Aside0.mk (HB3.out.trans (hb.mono HB3.out.size)); have HL8 := Aside0.mk hl8; have HC8 := Aside0.mk hC8; clear hb hl8 hC8; have KK : V3.cell? ⟨w.heap.size, 5, none⟩ = some (.int .i64 fr) ∧ V3.cell? ⟨w.heap.size, 6, none⟩ = some (.int .u32 ad) ∧ V3.cell? ⟨bt, 0, none⟩ = some (.slice A7 dv.length c7) := ⟨blk_cell KX4.out 5, blk_cell KX4.out 6, blk_cell KT4.out 0⟩))
          have s1 := blk_cell KT4.out 1
          have s2 := blk_cell KT4.out 2
          have s3 := blk_cell KT4.out 3
          go_wp2_with fail
          refine (P7.out A8 c8 V3 HC8.out HL8.out).mono ?_
          rintro e V4 ⟨⟨A9, c9, rfl, hl9, hC9, hR9⟩, hb⟩
          have HR9 := Aside0.mk (Kd.R_lower hR9 HB4.out.size)
          have HB9 := Aside0.mk (HB4.out.trans (hb.mono HB4.out.size))
          clear hb hl9 hC9 hR9
          go_wp2_with fail
          go_ret2
          exact ⟨⟨_, by rw [HO.out]; rfl, by rw [HO.out, HA.out]; exact HR9.out⟩, HB9.out⟩
theorem ans_any (r : Rs) (A2 : Option Addr) (c2 : Nat) (A3 : Option Addr) (c3 : Nat) (A7 : Option Addr) (c7 : Nat) (w : World) (h2 : Kd.C (Kd.int .i64) w A2 r.ids.length r.ids) (h3 : Kd.C k29 w A3 r.rules.length r.rules) (h7 : Kd.C (Kd.int .i64) w A7 r.dv.length r.dv) (hr : ∀ x ∈ r.rules, okRu x) (had : 0 ≤ r.ad ∧ r.ad ≤ 4294967295) :
    Calls Try.prog 17 #[.agg (rsVals (.slice A2 r.ids.length c2) (.slice A3 r.rules.length c3) (.slice A7 r.dv.length c7) r).toArray] w fun e w' => (∃ v, e = .returned (.tuple #[v, .int .i64 (ansOut r).2]) ∧ Kd.R (Kd.int .u8) 5 w' w.heap.size (fun _ => True) v (ansOut r).1) ∧ Below w.heap.size w w' :=
  ans_flat r.e r.n r.ids r.rules r.h r.fr r.ad r.dv r.ft r.od r.op A2 c2 A3 c3 A7 c7 w h2 h3 h7 hr had
end Go.Proofs.Ytpaknjmcjblahaa.H
