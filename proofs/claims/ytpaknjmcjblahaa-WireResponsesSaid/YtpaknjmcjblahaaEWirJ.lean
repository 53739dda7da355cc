/- WirJ. -/
import Derived.Test.YtpaknjmcjblahaaEWirI
import Derived.Test.YtpaknjmcjblahaaEWir7
import Derived.Deep.RegionHeld3
namespace Go.Proofs.Ytpaknjmcjblahaa.H
open Go.RowKit Go.Proofs.Ytpaknjmcjblahaa.P Go.Proofs.YtpaknjmcjblahaaW.PrintWords Go.Proofs.YtpaknjmcjblahaaW.PrintLast Go.Proofs.YtpaknjmcjblahaaW.PrintMore
set_option linter.unusedVariables false
set_option linter.unusedSimpArgs false
set_option maxRecDepth 20000
def encOut (r : Rq) : List Int × Int := if rightQ r = true then (encL r, 0) else ([], 171)
theorem nilC (W : World) : Kd.C (Kd.int .u8) W none ([] : List Int).length [] := Kd.C_of_reads (h1 := fun _ => rfl) (d := 0) ⟨rfl, by simp, fun hn => absurd hn (by simp)⟩
theorem litC (ns : List Int) (hl : ns.length ≤ 1000) (W : World) : Kd.C (Kd.int .i64) (W.alloc (.cells (ns.map (Value.int .i64)).toArray 3)) (some ⟨W.heap.size, 0, none⟩) ns.length ns := lit_C ns hl W
theorem wput_lit (A : Option Addr) (c : Nat) (l ns L : List Int) (hn : ∀ x ∈ ns, 0 ≤ x ∧ x < 9223372036854775808) (hne : ns ≠ []) (hs : ns.length ≤ 1000) (hl : l.length ≤ 50000) (hL : l ++ putL ns = L) (W : World) (hA : Kd.C (Kd.int .u8) W A l.length l) (hc : l.length ≤ c) :
    Calls Try.prog 22 #[.slice A l.length c, .slice (some ⟨W.heap.size, 0, none⟩) ns.length ns.length] (W.alloc (.cells (ns.map (Value.int .i64)).toArray 3)) fun e w' => (∃ A' c', e = .returned (.slice A' L.length c') ∧ L.length ≤ c' ∧ Kd.C (Kd.int .u8) w' A' L.length L ∧ Kd.R (Kd.int .u8) 5 w' W.heap.size (fun _ => True) (.slice A' L.length c') L) ∧ Below W.heap.size W w' := by
  have hb := (Below.refl W.heap.size W).alloc (Nat.le_refl _) (.cells (ns.map (Value.int .i64)).toArray 3)
  refine (wput_any A c l _ ns.length ns _ (Kd.C_below hA hb) hc (litC ns hs W) hn (by omega)).mono ?_
  rintro e w' ⟨⟨A', c', rfl, h1, h2, h3⟩, hb2⟩
  rw [hL] at h1 h2 h3 ⊢
  exact ⟨⟨A', c', rfl, h1, h2, Kd.R_lower (h3 hne) hb.size⟩, hb.trans (hb2.mono hb.size)⟩
theorem numsR_ok {r : Ru} (h : okW r) : ∀ x ∈ numsR r, 0 ≤ x ∧ x < 9223372036854775808 := by
  obtain ⟨h0, h1, h2, h3, h4, h5, h6⟩ := h
  have hw : wideW = 4294967295 := rfl
  unfold inB at *
  intro x hx
  unfold numsR at hx
  simp only [List.mem_cons, List.not_mem_nil, or_false] at hx
  rcases hx with rfl | rfl | rfl | rfl | rfl | rfl | rfl <;> omega
theorem putL2 (a b : Int) : putL [a, b] = putN a ++ putN b := by simp [putL]
theorem putRu_len {r : Ru} (h : okW r) : (putRu r).length ≤ 63 := by
  have := putL_len (numsR r) (fun x hx => by have := numsR_ok h x hx; omega)
  unfold putRu
  simpa [numsR] using this
set_option maxHeartbeats 8000000 in
theorem enc_any (r : Rq) (hu : okRq r) (w : World) :
    Calls Try.prog 10 #[.agg #[.int .i64 r.k, .int .i64 r.s, .string r.nm, .int .i64 r.ek, .int .i64 r.ru.f0, .int .i64 r.ru.f1, .int .i64 r.ru.f2, .int .i64 r.ru.f3, .int .u32 r.ru.f4.f0, .int .u32 r.ru.f4.f1, .int .i64 r.ru.f5, .int .i64 r.qk, .int .i64 r.qa, .int .i64 r.qb, .int .i64 r.qw, .int .u32 r.qf, .int .u32 r.qt, .string r.qo]] w fun e w' => (∃ v, e = .returned (.tuple #[v, .int .i64 (encOut r).2]) ∧ Kd.R (Kd.int .u8) 5 w' w.heap.size (fun _ => True) v (encOut r).1) ∧ Below w.heap.size w w' := by
  have CR := Aside0.mk (fun W => right_any r hu W)
  have HO := Aside0.mk (show encOut r = if rightQ r = true then (encL r, 0) else ([], 171) from rfl)
  have HF := Aside0.mk (fun h : rightQ r = true => form_of h)
  have CP := Aside0.mk (fun W => counts_any r.k W)
  have eF : wrap64 r.qf = r.qf := by have := hu.2.1; unfold wrap64; omega
  have eT : wrap64 r.qt = r.qt := by have := hu.2.2; unfold wrap64; omega
  have eF2 : IntKind.i64.wrap r.qf = r.qf := by have := hu.2.1; rw [IntKind.wrap_i64]; omega
  have eT2 : IntKind.i64.wrap r.qt = r.qt := by have := hu.2.2; rw [IntKind.wrap_i64]; omega
  have HU := Aside0.mk hu
  clear hu
  generalize encOut r = OUT at *
  have HB := Aside0.mk ((Below.refl w.heap.size w).alloc (Nat.le_refl _) (.cells #[.int .i64 r.k, .int .i64 r.s, .string r.nm, .int .i64 r.ek, .int .i64 r.ru.f0, .int .i64 r.ru.f1, .int .i64 r.ru.f2, .int .i64 r.ru.f3, .int .u32 r.ru.f4.f0, .int .u32 r.ru.f4.f1, .int .i64 r.ru.f5, .int .i64 r.qk, .int .i64 r.qa, .int .i64 r.qb, .int .i64 r.qw, .int .u32 r.qf, .int .u32 r.qt, .string r.qo] 36))
  have HX := Aside0.mk (show RqAt (w.alloc (.cells #[.int .i64 r.k, .int .i64 r.s, .string r.nm, .int .i64 r.ek, .int .i64 r.ru.f0, .int .i64 r.ru.f1, .int .i64 r.ru.f2, .int .i64 r.ru.f3, .int .u32 r.ru.f4.f0, .int .u32 r.ru.f4.f1, .int .i64 r.ru.f5, .int .i64 r.qk, .int .i64 r.qa, .int .i64 r.qb, .int .i64 r.qw, .int .u32 r.qf, .int .u32 r.qt, .string r.qo] 36)) w.heap.size r from blk_new w _)
  go_enter Try.func10, Try.ntmps10
  try dsimp only
  repeat ((fail_if_success (show Code.wp _ (Code.seq (Code.region 1 _ _) _) _ _ _)); (first | go_values | go_skip | go_guarded | go_step | go_upon | go_back))
  generalize (w.alloc (.cells #[.int .i64 r.k, .int .i64 r.s, .string r.nm, .int .i64 r.ek, .int .i64 r.ru.f0, .int .i64 r.ru.f1, .int .i64 r.ru.f2, .int .i64 r.ru.f3, .int .u32 r.ru.f4.f0, .int .u32 r.ru.f4.f1, .int .i64 r.ru.f5, .int .i64 r.qk, .int .i64 r.qa, .int .i64 r.qb, .int .i64 r.qw, .int .u32 r.qf, .int .u32 r.qt, .string r.qo] 36)) = W0 at *
  try dsimp only
  repeat ((fail_if_success (show Oper.wp _ (Oper.mk _ (Op.load 36 _) _ _ _ _) _ _ _ _)); (first | go_values | go_skip | go_guarded | go_step | go_upon | go_back))
  refine wp_load_row HX.out rfl rfl Try.underlying36 rfl (by kernel_rfl) ?_
  try go_simp
  go_wp2_with fail
  refine (CR.out W0).mono ?_
  rintro e W1 ⟨rfl, hb⟩
  replace HX := Aside0.mk (HX.out.below hb)
  replace HB := Aside0.mk (HB.out.trans (hb.mono HB.out.size))
  clear hb CR
  cases hq : rightQ r with
  | false =>
    replace HO := Aside0.mk (HO.out.trans (if_neg (by rw [hq]; simp)))
    clear hq HF CP
    go_wp2_with fail
    go_ret2
    exact ⟨⟨_, by rw [HO.out]; rfl, by rw [HO.out]; exact Kd.R_nil _ _ _ _ _⟩, HB.out⟩
  | true =>
    have F := HF.out hq
    replace HO := Aside0.mk (HO.out.trans (if_pos hq))
    have HFF := Aside0.mk F
    have hks := Aside0.mk (show ∀ x ∈ [r.k, r.s], 0 ≤ x ∧ x < 9223372036854775808 from by
      have h1 := F.k; have h2 := F.s; unfold inB at h1 h2
      intro x hx; simp only [List.mem_cons, List.not_mem_nil, or_false] at hx
      rcases hx with rfl | rfl <;> omega)
    have HN2 := Aside0.mk (show (putN r.k ++ putN r.s).length ≤ 18 from by
      have h1 := F.k; have h2 := F.s; unfold inB at h1 h2
      have := putN_len r.k (by omega); have := putN_len r.s (by omega); rw [List.length_append]; omega)
    clear hq HF F
    have P1 := Aside0.mk (show ∀ W : World, Calls Try.prog 22 #[.slice none 0 0, .slice (some ⟨W.heap.size, 0, none⟩) 2 2] (W.alloc (.cells #[.int .i64 r.k, .int .i64 r.s] 3)) (fun e w' => (∃ A' c', e = .returned (.slice A' (putN r.k ++ putN r.s).length c') ∧ (putN r.k ++ putN r.s).length ≤ c' ∧ Kd.C (Kd.int .u8) w' A' (putN r.k ++ putN r.s).length (putN r.k ++ putN r.s) ∧ Kd.R (Kd.int .u8) 5 w' W.heap.size (fun _ => True) (.slice A' (putN r.k ++ putN r.s).length c') (putN r.k ++ putN r.s)) ∧ Below W.heap.size W w') from fun W => wput_lit none 0 [] [r.k, r.s] (putN r.k ++ putN r.s) hks.out (by simp) (by simp) (by simp) (by rw [putL2]; rfl) W (nilC W) (by simp))
    have HE := Aside0.mk (show encL r = (putN r.k ++ putN r.s) ++ (if partK r.k = 1 then putT r.nm else if partK r.k = 2 then putN r.ek ++ putRu r.ru else if partK r.k = 3 then putN r.qk ++ (putN r.qa ++ (putN r.qb ++ (putN r.qw ++ (putN r.qf ++ (putN r.qt ++ putT r.qo))))) else []) from by unfold encL; rw [List.append_assoc])
    generalize putN r.k ++ putN r.s = L1 at *
    obtain ⟨y0, y1, y2, y3, y4, y5, y6, y7, y8, y9, y10, y11, y12, y13, y14, y15, y16, y17⟩ := HX.out.cells
    go_wp2_with fail
    refine (P1.out W1).mono ?_
    rintro e W2 ⟨⟨A2, c2, rfl, hl2, hC2, hR2⟩, hb⟩
    replace HX := Aside0.mk (HX.out.below hb)
    have HBl := Aside0.mk (show w.heap.size ≤ W1.heap.size from HB.out.size)
    replace HB := Aside0.mk (HB.out.trans (hb.mono HB.out.size))
    have HL2 := Aside0.mk hl2
    have HC2 := Aside0.mk hC2
    have HR2 := Aside0.mk (Kd.R_lower hR2 HBl.out)
    clear hb hl2 hC2 hR2 P1 y0 y1 y2 y3 y4 y5 y6 y7 y8 y9 y10 y11 y12 y13 y14 y15 y16 y17
    obtain ⟨y0, y1, y2, y3, y4, y5, y6, y7, y8, y9, y10, y11, y12, y13, y14, y15, y16, y17⟩ := HX.out.cells
    go_wp2_with fail
    refine (CP.out W2).mono ?_
    rintro e W3 ⟨rfl, hb⟩
    replace HX := Aside0.mk (HX.out.below hb)
    replace HB := Aside0.mk (HB.out.trans (hb.mono HB.out.size))
    replace HC2 := Aside0.mk (Kd.C_below HC2.out hb)
    replace HR2 := Aside0.mk (Kd.R_below HR2.out hb)
    clear hb CP HBl y0 y1 y2 y3 y4 y5 y6 y7 y8 y9 y10 y11 y12 y13 y14 y15 y16 y17
    obtain ⟨y0, y1, y2, y3, y4, y5, y6, y7, y8, y9, y10, y11, y12, y13, y14, y15, y16, y17⟩ := HX.out.cells
    rcases partK_4 r.k with hp | hp | hp | hp
    · replace HE := Aside0.mk (show encL r = L1 from by rw [HE.out, hp]; simp)
      rw [hp]
      go_wp2_with fail
      go_ret2
      exact ⟨⟨_, by rw [HO.out]; rfl, by rw [HO.out, HE.out]; exact HR2.out⟩, HB.out⟩
    · replace HE := Aside0.mk (show encL r = L1 ++ putT r.nm from by rw [HE.out, hp]; simp)
      rw [hp]
      have PT := Aside0.mk (wtext_any A2 c2 L1 r.nm W3 HC2.out HL2.out (by have := HN2.out; have := HFF.out.nm; omega))
      go_wp2_with fail
      refine PT.out.mono ?_
      rintro e W4 ⟨v, rfl, hR, hb⟩
      have HR := Aside0.mk (Kd.R_lower hR HB.out.size)
      replace HB := Aside0.mk (HB.out.trans (hb.mono HB.out.size))
      clear hb hR PT y0 y1 y2 y3 y4 y5 y6 y7 y8 y9 y10 y11 y12 y13 y14 y15 y16 y17
      go_wp2_with fail
      go_ret2
      exact ⟨⟨_, by rw [HO.out]; rfl, by rw [HO.out, HE.out]; exact HR.out⟩, HB.out⟩
    · replace HE := Aside0.mk (show encL r = (L1 ++ putN r.ek) ++ putL (numsR r.ru) from by rw [HE.out, hp]; simp [putRu])
      rw [hp]
      have hek := HFF.out.ek
      have hru := HFF.out.ru
      unfold inB at hek
      have hel := putN_len r.ek (by omega)
      have P2 := Aside0.mk (show ∀ W : World, Kd.C (Kd.int .u8) W A2 L1.length L1 → Calls Try.prog 22 #[.slice A2 L1.length c2, .slice (some ⟨W.heap.size, 0, none⟩) 1 1] (W.alloc (.cells #[.int .i64 r.ek] 3)) (fun e w' => (∃ A' c', e = .returned (.slice A' (L1 ++ putN r.ek).length c') ∧ (L1 ++ putN r.ek).length ≤ c' ∧ Kd.C (Kd.int .u8) w' A' (L1 ++ putN r.ek).length (L1 ++ putN r.ek) ∧ Kd.R (Kd.int .u8) 5 w' W.heap.size (fun _ => True) (.slice A' (L1 ++ putN r.ek).length c') (L1 ++ putN r.ek)) ∧ Below W.heap.size W w') from fun W hC => wput_lit A2 c2 L1 [r.ek] (L1 ++ putN r.ek) (by intro x hx; simp only [List.mem_singleton] at hx; subst hx; omega) (by simp) (by simp) (by have := HN2.out; omega) (by simp [putL]) W hC HL2.out)
      have HN3 := Aside0.mk (show (L1 ++ putN r.ek).length ≤ 100 from by rw [List.length_append]; have := HN2.out; omega)
      generalize L1 ++ putN r.ek = L2 at *
      have PN := Aside0.mk (show ∀ W : World, Calls Try.prog 25 #[.agg #[.int .i64 r.ru.f0, .int .i64 r.ru.f1, .int .i64 r.ru.f2, .int .i64 r.ru.f3, .int .u32 r.ru.f4.f0, .int .u32 r.ru.f4.f1, .int .i64 r.ru.f5]] W (fun e w' => (∃ A c, e = .returned (.slice A 7 c) ∧ 7 ≤ c ∧ Kd.C (Kd.int .i64) w' A 7 (numsR r.ru)) ∧ Below W.heap.size W w') from fun W => nums_any r.ru HU.out.1 W)
      have P3 := Aside0.mk (show ∀ (A : Option Addr) (c : Nat) (B : Option Addr) (d : Nat) (W : World), Kd.C (Kd.int .u8) W A L2.length L2 → L2.length ≤ c → Kd.C (Kd.int .i64) W B 7 (numsR r.ru) → Calls Try.prog 22 #[.slice A L2.length c, .slice B 7 d] W (fun e w' => ∃ v, e = .returned v ∧ Kd.R (Kd.int .u8) 5 w' W.heap.size (fun _ => True) v (L2 ++ putL (numsR r.ru)) ∧ Below W.heap.size W w') from fun A c B d W h1 h2 h3 => by
        refine (wput_any A c L2 B d (numsR r.ru) W h1 h2 h3 (numsR_ok hru) (by have := HN3.out; have : (numsR r.ru).length = 7 := rfl; omega)).mono ?_
        rintro e w' ⟨⟨A', c', rfl, _, _, h3⟩, hb⟩
        exact ⟨_, rfl, h3 (by simp [numsR]), hb⟩)
      clear hek hru hel
      have HC2d := Aside0.mk (Kd.C_below HC2.out (below_drew (Below.refl W3.heap.size W3)))
      have HXd := Aside0.mk (HX.out.below (below_drew (Below.refl W3.heap.size W3)))
      have HBd := Aside0.mk (below_drew HB.out)
      have P2d := Aside0.mk (show Calls Try.prog 22 #[.slice A2 L1.length c2, .slice (some ⟨W3.heap.size, 0, none⟩) 1 1] (W3.alloc (.cells #[.int .i64 r.ek] 3)).drew (fun e w' => (∃ A' c', e = .returned (.slice A' L2.length c') ∧ L2.length ≤ c' ∧ Kd.C (Kd.int .u8) w' A' L2.length L2 ∧ Kd.R (Kd.int .u8) 5 w' W3.drew.heap.size (fun _ => True) (.slice A' L2.length c') L2) ∧ Below W3.drew.heap.size W3.drew w') from P2.out W3.drew HC2d.out)
      clear P2
      go_wp2_with fail
      go_region_held3 (fun w' => w'.cell? ⟨w.heap.size, 3, none⟩ = some (.int .i64 r.ek) ∧ w'.cell? ⟨w.heap.size, 4, none⟩ = some (.int .i64 r.ru.f0) ∧ w'.cell? ⟨w.heap.size, 5, none⟩ = some (.int .i64 r.ru.f1) ∧ w'.cell? ⟨w.heap.size, 6, none⟩ = some (.int .i64 r.ru.f2) ∧ w'.cell? ⟨w.heap.size, 7, none⟩ = some (.int .i64 r.ru.f3) ∧ w'.cell? ⟨w.heap.size, 8, none⟩ = some (.int .u32 r.ru.f4.f0) ∧ w'.cell? ⟨w.heap.size, 9, none⟩ = some (.int .u32 r.ru.f4.f1) ∧ w'.cell? ⟨w.heap.size, 10, none⟩ = some (.int .i64 r.ru.f5)) (first | assumption | go_keep) (first
        | (go_at_call 22; (with_reducible refine P2d.out.mono ?_); rintro e W4 ⟨⟨A4, c4, rfl, hl4, hC4, hR4⟩, hb⟩; have HX4 := Aside0.mk (HXd.out.below hb); have HB4 := Aside0.mk (HBd.out.trans (hb.mono HBd.out.size)); have HL4 := Aside0.mk hl4; have HC4 := Aside0.mk hC4; clear hb hl4 hC4 hR4; have KK : W4.cell? ⟨w.heap.size, 3, none⟩ = some (.int .i64 r.ek) ∧ W4.cell? ⟨w.heap.size, 4, none⟩ = some (.int .i64 r.ru.f0) ∧ W4.cell? ⟨w.heap.size, 5, none⟩ = some (.int .i64 r.ru.f1) ∧ W4.cell? ⟨w.heap.size, 6, none⟩ = some (.int .i64 r.ru.f2) ∧ W4.cell? ⟨w.heap.size, 7, none⟩ = some (.int .i64 r.ru.f3) ∧ W4.cell? ⟨w.heap.size, 8, none⟩ = some (.int .u32 r.ru.f4.f0) ∧ W4.cell? ⟨w.heap.size, 9, none⟩ = some (.int .u32 r.ru.f4.f1) ∧ W4.cell? ⟨w.heap.size, 10, none⟩ = some (.int .i64 r.ru.f5) := (by obtain ⟨q0, q1, q2, q3, q4, q5, q6, q7, q8, q9, q10, q11, q12, q13, q14, q15, q16, q17⟩ := HX4.out.cells; exact ⟨q3, q4, q5, q6, q7, q8, q9, q10⟩))
        | (go_at_call 25; (with_reducible refine (PN.out _).mono ?_); rintro e W5 ⟨⟨A5, c5, rfl, h5, hC5⟩, hb⟩; have HX5 := Aside0.mk (HX4.out.below hb); have HB5 := Aside0.mk (HB4.out.trans (hb.mono HB4.out.size)); have HC45 := Aside0.mk (Kd.C_below HC4.out hb); have HC5 := Aside0.mk hC5; clear hb h5 hC5; have KK : W5.cell? ⟨w.heap.size, 3, none⟩ = some (.int .i64 r.ek) ∧ W5.cell? ⟨w.heap.size, 4, none⟩ = some (.int .i64 r.ru.f0) ∧ W5.cell? ⟨w.heap.size, 5, none⟩ = some (.int .i64 r.ru.f1) ∧ W5.cell? ⟨w.heap.size, 6, none⟩ = some (.int .i64 r.ru.f2) ∧ W5.cell? ⟨w.heap.size, 7, none⟩ = some (.int .i64 r.ru.f3) ∧ W5.cell? ⟨w.heap.size, 8, none⟩ = some (.int .u32 r.ru.f4.f0) ∧ W5.cell? ⟨w.heap.size, 9, none⟩ = some (.int .u32 r.ru.f4.f1) ∧ W5.cell? ⟨w.heap.size, 10, none⟩ = some (.int .i64 r.ru.f5) := (by obtain ⟨q0, q1, q2, q3, q4, q5, q6, q7, q8, q9, q10, q11, q12, q13, q14, q15, q16, q17⟩ := HX5.out.cells; exact ⟨q3, q4, q5, q6, q7, q8, q9, q10⟩))
        | (go_at_call 22; (with_reducible refine (P3.out A4 c4 A5 c5 _ HC45.out HL4.out HC5.out).mono ?_); rintro e W6 ⟨v, rfl, hR, hb⟩; have HX6 := Aside0.mk (HX5.out.below hb); have HR := Aside0.mk (Kd.R_lower hR HB5.out.size); have HB6 := Aside0.mk (HB5.out.trans (hb.mono HB5.out.size)); clear hb hR; have KK : W6.cell? ⟨w.heap.size, 3, none⟩ = some (.int .i64 r.ek) ∧ W6.cell? ⟨w.heap.size, 4, none⟩ = some (.int .i64 r.ru.f0) ∧ W6.cell? ⟨w.heap.size, 5, none⟩ = some (.int .i64 r.ru.f1) ∧ W6.cell? ⟨w.heap.size, 6, none⟩ = some (.int .i64 r.ru.f2) ∧ W6.cell? ⟨w.heap.size, 7, none⟩ = some (.int .i64 r.ru.f3) ∧ W6.cell? ⟨w.heap.size, 8, none⟩ = some (.int .u32 r.ru.f4.f0) ∧ W6.cell? ⟨w.heap.size, 9, none⟩ = some (.int .u32 r.ru.f4.f1) ∧ W6.cell? ⟨w.heap.size, 10, none⟩ = some (.int .i64 r.ru.f5) := (by obtain ⟨q0, q1, q2, q3, q4, q5, q6, q7, q8, q9, q10, q11, q12, q13, q14, q15, q16, q17⟩ := HX6.out.cells; exact ⟨q3, q4, q5, q6, q7, q8, q9, q10⟩)))
      go_wp2_with fail
      go_ret2
      exact ⟨⟨_, by rw [HO.out]; rfl, by rw [HO.out, HE.out]; exact HR.out⟩, HB6.out⟩
    · replace HE := Aside0.mk (show encL r = (L1 ++ putL [r.qk, r.qa, r.qb, r.qw, r.qf, r.qt]) ++ putT r.qo from by rw [HE.out, hp]; simp [putL])
      rw [hp]
      have b1 := HFF.out.qk; have b2 := HFF.out.qa; have b3 := HFF.out.qb; have b4 := HFF.out.qw; have b5 := HU.out.2.1; have b6 := HU.out.2.2
      unfold inB at b1 b2 b3 b4
      have hok : ∀ x ∈ [r.qk, r.qa, r.qb, r.qw, r.qf, r.qt], 0 ≤ x ∧ x < 9223372036854775808 := by
        intro x hx; simp only [List.mem_cons, List.not_mem_nil, or_false] at hx
        rcases hx with rfl | rfl | rfl | rfl | rfl | rfl <;> omega
      have hpl := putL_len [r.qk, r.qa, r.qb, r.qw, r.qf, r.qt] (fun x hx => by have := hok x hx; omega)
      clear b1 b2 b3 b4 b5 b6
      have P2 := Aside0.mk (show ∀ W : World, Kd.C (Kd.int .u8) W A2 L1.length L1 → Calls Try.prog 22 #[.slice A2 L1.length c2, .slice (some ⟨W.heap.size, 0, none⟩) 6 6] (W.alloc (.cells #[.int .i64 r.qk, .int .i64 r.qa, .int .i64 r.qb, .int .i64 r.qw, .int .i64 r.qf, .int .i64 r.qt] 3)) (fun e w' => (∃ A' c', e = .returned (.slice A' (L1 ++ putL [r.qk, r.qa, r.qb, r.qw, r.qf, r.qt]).length c') ∧ (L1 ++ putL [r.qk, r.qa, r.qb, r.qw, r.qf, r.qt]).length ≤ c' ∧ Kd.C (Kd.int .u8) w' A' (L1 ++ putL [r.qk, r.qa, r.qb, r.qw, r.qf, r.qt]).length (L1 ++ putL [r.qk, r.qa, r.qb, r.qw, r.qf, r.qt]) ∧ Kd.R (Kd.int .u8) 5 w' W.heap.size (fun _ => True) (.slice A' (L1 ++ putL [r.qk, r.qa, r.qb, r.qw, r.qf, r.qt]).length c') (L1 ++ putL [r.qk, r.qa, r.qb, r.qw, r.qf, r.qt])) ∧ Below W.heap.size W w') from fun W hC => wput_lit A2 c2 L1 [r.qk, r.qa, r.qb, r.qw, r.qf, r.qt] (L1 ++ putL [r.qk, r.qa, r.qb, r.qw, r.qf, r.qt]) hok (by simp) (by simp) (by have := HN2.out; omega) rfl W hC HL2.out)
      have HN3 := Aside0.mk (show (L1 ++ putL [r.qk, r.qa, r.qb, r.qw, r.qf, r.qt]).length ≤ 1000 from by rw [List.length_append]; have := HN2.out; simp at hpl; omega)
      clear hok hpl
      generalize L1 ++ putL [r.qk, r.qa, r.qb, r.qw, r.qf, r.qt] = L2 at *
      have PT := Aside0.mk (fun (A : Option Addr) (c : Nat) (W : World) (h1 : Kd.C (Kd.int .u8) W A L2.length L2) (h2 : L2.length ≤ c) => wtext_any A c L2 r.qo W h1 h2 (by have := HN3.out; have := HFF.out.qo; omega))
      try dsimp only
      repeat ((fail_if_success (show Code.wp _ (Code.seq (Code.region 11 _ _) _) _ _ _)); (first | go_values | go_skip | go_guarded | go_step | go_upon | go_back))
      have hbq := (Below.refl W3.heap.size W3).alloc (Nat.le_refl _) (.cells #[.int .i64 r.qk, .int .i64 r.qa, .int .i64 r.qb, .int .i64 r.qw, .int .u32 r.qf, .int .u32 r.qt, .string r.qo] 34)
      have KQ := Aside0.mk (blk_new W3 (.cells #[.int .i64 r.qk, .int .i64 r.qa, .int .i64 r.qb, .int .i64 r.qw, .int .u32 r.qf, .int .u32 r.qt, .string r.qo] 34))
      have HC2q := Aside0.mk (Kd.C_below HC2.out hbq)
      have HBq := Aside0.mk (HB.out.trans (hbq.mono HB.out.size))
      clear hbq y0 y1 y2 y3 y4 y5 y6 y7 y8 y9 y10 y11 y12 y13 y14 y15 y16 y17
      generalize (W3.alloc (.cells #[.int .i64 r.qk, .int .i64 r.qa, .int .i64 r.qb, .int .i64 r.qw, .int .u32 r.qf, .int .u32 r.qt, .string r.qo] 34)) = W4 at *
      have z0 := blk_cell KQ.out 0
      have z1 := blk_cell KQ.out 1
      have z2 := blk_cell KQ.out 2
      have z3 := blk_cell KQ.out 3
      have z4 := blk_cell KQ.out 4
      have z5 := blk_cell KQ.out 5
      have z6 := blk_cell KQ.out 6
      have HC2d := Aside0.mk (Kd.C_below HC2q.out (below_drew (Below.refl W4.heap.size W4)))
      have KQd := Aside0.mk (blk_below KQ.out (below_drew (Below.refl W4.heap.size W4)))
      have HBd := Aside0.mk (below_drew HBq.out)
      go_wp2_with fail
      go_region_held3 (fun w' => w'.cell? ⟨W3.heap.size, 0, none⟩ = some (.int .i64 r.qk) ∧ w'.cell? ⟨W3.heap.size, 1, none⟩ = some (.int .i64 r.qa) ∧ w'.cell? ⟨W3.heap.size, 2, none⟩ = some (.int .i64 r.qb) ∧ w'.cell? ⟨W3.heap.size, 3, none⟩ = some (.int .i64 r.qw) ∧ w'.cell? ⟨W3.heap.size, 4, none⟩ = some (.int .u32 r.qf) ∧ w'.cell? ⟨W3.heap.size, 5, none⟩ = some (.int .u32 r.qt) ∧ w'.cell? ⟨W3.heap.size, 6, none⟩ = some (.string r.qo)) (first | assumption | go_keep) (first
        | (go_at_call 22; refine (P2.out W4.drew HC2d.out).mono ?_; rintro e W5 ⟨⟨A4, c4, rfl, hl4, hC4, hR4⟩, hb⟩; have KQ5 := Aside0.mk (blk_below KQd.out hb); have HB5 := Aside0.mk (HBd.out.trans (hb.mono HBd.out.size)); have HL4 := Aside0.mk hl4; have HC4 := Aside0.mk hC4; clear hb hl4 hC4 hR4; have KK : W5.cell? ⟨W3.heap.size, 0, none⟩ = some (.int .i64 r.qk) ∧ W5.cell? ⟨W3.heap.size, 1, none⟩ = some (.int .i64 r.qa) ∧ W5.cell? ⟨W3.heap.size, 2, none⟩ = some (.int .i64 r.qb) ∧ W5.cell? ⟨W3.heap.size, 3, none⟩ = some (.int .i64 r.qw) ∧ W5.cell? ⟨W3.heap.size, 4, none⟩ = some (.int .u32 r.qf) ∧ W5.cell? ⟨W3.heap.size, 5, none⟩ = some (.int .u32 r.qt) ∧ W5.cell? ⟨W3.heap.size, 6, none⟩ = some (.string r.qo) := ⟨blk_cell KQ5.out 0, blk_cell KQ5.out 1, blk_cell KQ5.out 2, blk_cell KQ5.out 3, blk_cell KQ5.out 4, blk_cell KQ5.out 5, blk_cell KQ5.out 6⟩)
        | (go_at_call 24; refine (PT.out A4 c4 _ HC4.out HL4.out).mono ?_; rintro e W6 ⟨v, rfl, hR, hb⟩; have KQ6 := Aside0.mk (blk_below KQ5.out hb); have HR := Aside0.mk (Kd.R_lower hR HB5.out.size); have HB6 := Aside0.mk (HB5.out.trans (hb.mono HB5.out.size)); clear hb hR; have KK : W6.cell? ⟨W3.heap.size, 0, none⟩ = some (.int .i64 r.qk) ∧ W6.cell? ⟨W3.heap.size, 1, none⟩ = some (.int .i64 r.qa) ∧ W6.cell? ⟨W3.heap.size, 2, none⟩ = some (.int .i64 r.qb) ∧ W6.cell? ⟨W3.heap.size, 3, none⟩ = some (.int .i64 r.qw) ∧ W6.cell? ⟨W3.heap.size, 4, none⟩ = some (.int .u32 r.qf) ∧ W6.cell? ⟨W3.heap.size, 5, none⟩ = some (.int .u32 r.qt) ∧ W6.cell? ⟨W3.heap.size, 6, none⟩ = some (.string r.qo) := ⟨blk_cell KQ6.out 0, blk_cell KQ6.out 1, blk_cell KQ6.out 2, blk_cell KQ6.out 3, blk_cell KQ6.out 4, blk_cell KQ6.out 5, blk_cell KQ6.out 6⟩))
      go_wp2_with fail
      go_ret2
      exact ⟨⟨_, by rw [HO.out]; rfl, by rw [HO.out, HE.out]; exact HR.out⟩, HB6.out⟩
end Go.Proofs.Ytpaknjmcjblahaa.H
