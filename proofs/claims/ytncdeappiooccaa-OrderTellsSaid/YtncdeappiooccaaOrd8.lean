/- alive: walked. -/
import Derived.Test.YtncdeappiooccaaOrd7
namespace Go.Proofs.Ytncdeappiooccaa.H
open Go.RowKit Go.Proofs.Ytncdeappiooccaa.P Go.Proofs.YtncdeappiooccaaW.PrintWords Go.Proofs.YtncdeappiooccaaW.PrintLast Go.Proofs.YtncdeappiooccaaW.PrintMore
set_option linter.unusedVariables false
set_option linter.unusedSimpArgs false
def h0 : List S47 := [⟨1, 1⟩, ⟨1, 2⟩, ⟨2, 2⟩, ⟨3, 2⟩, ⟨1, 3⟩, ⟨2, 1⟩]
theorem some_any (w : World) : Calls Try.prog 19 #[] w fun e w' => ∃ A c, e = .returned (.slice A h0.length c) ∧ h0.length ≤ c ∧ Kd.C k47 w' A h0.length h0 ∧ Below w.heap.size w w' := by
  refine (waystonelaw21_some.calls h0 w rfl).mono ?_
  rintro e w' ⟨v, rfl, hr, hb⟩
  obtain ⟨A, c, rfl, hc, hC⟩ := Kd.R_reads hr
  exact ⟨A, c, rfl, hc, hC, hb⟩
theorem C_blk {w : World} {g : Nat} {cs : Array Value} {l : List Int} (hh : w.heap[g]? = some (.cells cs 3 (0, 0))) (hl : l.length ≤ 9223372036854775807) (hcs : ∀ (t : Nat) (y : Int), l[t]? = some y → cs[t]? = some (Value.int .i64 y)) : Kd.C (Kd.int .i64) w (some ⟨g, 0, none⟩) l.length l := by
  refine ⟨rfl, by omega, fun _ => ⟨_, rfl, fun t y hy => ⟨[.int .i64 y], rfl, rfl, fun i u hu => ?_⟩⟩⟩
  match i, hu with
  | 0, hu =>
    simp at hu
    subst hu
    show w.cell? ((⟨g, 0, none⟩ : Addr).add (t * 1 + 0)) = _
    rw [add_plain, blk_cell hh, Nat.mul_one, Nat.add_zero]
    exact hcs t y hy
theorem C_two {w : World} {A : Option Addr} {a b : Int} (h : Kd.C (Kd.int .i64) w A 2 [a, b]) : ∃ p, A = some p ∧ ∀ W, Below w.heap.size w W → W.cell? p = some (.int .i64 a) ∧ W.cell? ⟨p.block, p.off + 1, none⟩ = some (.int .i64 b) := by
  obtain ⟨p, hp, hat⟩ := h.2.2 (by decide)
  refine ⟨p, hp, fun W hW => ?_⟩
  have hC := Kd.C_below h hW
  obtain ⟨p', hp', hat'⟩ := hC.2.2 (by decide)
  rw [hp] at hp'
  cases hp'
  have key : ∀ (t : Nat) (y : Int), [a, b][t]? = some y → W.cell? (p.add t) = some (.int .i64 y) := by
    intro t y hy
    obtain ⟨cs, hlen, hk, hcell⟩ := hat' t y hy
    have hk' : cs = [Value.int .i64 y] := hk
    subst hk'
    have := hcell 0 _ rfl
    rw [show (Kd.int IntKind.i64).sz = 1 from rfl, Nat.mul_one, Nat.add_zero] at this
    exact this
  refine ⟨?_, key 1 b rfl⟩
  have := key 0 a rfl
  simpa [Addr.add] using this
theorem e_right : rightH h0 = true := by kernel_rfl
theorem e_orderL : orderL h0 = [2, 1] := by kernel_rfl
theorem e_orderE : orderE h0 = 0 := by kernel_rfl
theorem e_pendL : pendL h0 = [1, 3] := by kernel_rfl
theorem e_a1 : aheadH h0 2 3 = true := by kernel_rfl
theorem e_a2 : aheadH h0 2 1 = false := by kernel_rfl
theorem e_r1 : respH h0 [1, 2, 3] = true := by kernel_rfl
theorem e_r2 : respH h0 [3, 2] = false := by kernel_rfl
theorem l_h0 : h0.length = 6 := rfl
set_option maxHeartbeats 1600000 in
theorem alive_any (w : World) : Calls Try.prog 6 #[] w fun e w' => e = .returned (.bool true) ∧ Below w.heap.size w w' := by
  go_enter Try.func6, Try.ntmps6
  go_wp2_with fail
  refine (some_any w).mono ?_
  rintro e w1 ⟨A1, c1, rfl, hc1, hC, hb⟩
  have HC1 := Aside0.mk hC
  have HC := HC1
  have HS1 := Aside0.mk hb
  have HB1 := Aside0.mk (show Below w.heap.size w w1 from hb)
  clear hC hb
  have hcall := order_any A1 c1 h0 w1 HC1.out hc1 (by decide)
  go_wp2_with fail
  refine hcall.mono ?_
  rintro e w2 ⟨v, rfl, hr, hb⟩
  have HS2 := Aside0.mk hb
  have HB2 := Aside0.mk (HB1.out.trans (hb.mono HB1.out.size))
  rw [e_orderL] at hr
  rw [e_orderE]
  obtain ⟨Al, cl, rfl, hcl, hCl⟩ := Kd.R_reads hr
  obtain ⟨pl, rfl, hpl⟩ := C_two hCl
  have HPL := Aside0.mk (And.intro hpl (True.intro))
  clear hr hCl hpl hcl
  clear hb hcall
  go_wp2_with fail
  refine (some_any w2).mono ?_
  rintro e w3 ⟨A3, c3, rfl, hc3, hC, hb⟩
  have HC3 := Aside0.mk hC
  have HC := HC3
  have HS3 := Aside0.mk hb
  have HB3 := Aside0.mk (show Below w.heap.size w w3 from HB2.out.trans (hb.mono HB2.out.size))
  clear hC hb
  have hcall := pending_any A3 c3 h0 w3 HC3.out hc3 (by decide)
  go_wp2_with fail
  refine hcall.mono ?_
  rintro e w4 ⟨vp, rfl, hrp, hb⟩
  have HS4 := Aside0.mk hb
  have HB4 := Aside0.mk (HB3.out.trans (hb.mono HB3.out.size))
  rw [e_pendL] at hrp
  obtain ⟨Ap, cp, rfl, hcp, hCp⟩ := Kd.R_reads hrp
  obtain ⟨pp, rfl, hpp⟩ := C_two hCp
  have HPP := Aside0.mk hpp
  clear hCp hpp hcp hrp
  clear hb hcall
  go_wp2_with fail
  refine (some_any w4).mono ?_
  rintro e w5 ⟨A5, c5, rfl, hc5, hC, hb⟩
  have HC5 := Aside0.mk hC
  have HC := HC5
  have HS5 := Aside0.mk hb
  have HB5 := Aside0.mk (show Below w.heap.size w w5 from HB4.out.trans (hb.mono HB4.out.size))
  clear hC hb
  have hcall := right_any A5 c5 h0 w5 HC5.out
  go_wp2_with fail
  refine hcall.mono ?_
  rintro e w6 ⟨rfl, hb⟩
  have HS6 := Aside0.mk hb
  have HB6 := Aside0.mk (HB5.out.trans (hb.mono HB5.out.size))
  clear hb hcall
  rw [e_right]
  have hl := (HPL.out.1 w6 (((HS3.out.trans (HS4.out.mono HS3.out.size)).trans (HS5.out.mono (HS3.out.trans (HS4.out.mono HS3.out.size)).size)).trans (HS6.out.mono ((HS3.out.trans (HS4.out.mono HS3.out.size)).trans (HS5.out.mono (HS3.out.trans (HS4.out.mono HS3.out.size)).size)).size)))
  have hp := (HPP.out w6 (HS5.out.trans (HS6.out.mono HS5.out.size)))
  obtain ⟨x0, x1⟩ := hl
  obtain ⟨y0, y1⟩ := hp
  have pz : pl.add 0 = pl := rfl
  go_wp2_with fail
  clear x0 x1 y0 y1
  refine (some_any w6).mono ?_
  rintro e w7 ⟨A7, c7, rfl, hc7, hC, hb⟩
  have HC7 := Aside0.mk hC
  have HC := HC7
  have HS7 := Aside0.mk hb
  have HB7 := Aside0.mk (show Below w.heap.size w w7 from HB6.out.trans (hb.mono HB6.out.size))
  clear hC hb
  have hcall := ahead_any A7 c7 h0 2 3 w7 HC7.out
  go_wp2_with fail
  refine hcall.mono ?_
  rintro e w8 ⟨rfl, hb⟩
  have HS8 := Aside0.mk hb
  have HB8 := Aside0.mk (HB7.out.trans (hb.mono HB7.out.size))
  clear hb hcall
  rw [e_a1]
  go_wp2_with fail
  refine (some_any w8).mono ?_
  rintro e w9 ⟨A9, c9, rfl, hc9, hC, hb⟩
  have HC9 := Aside0.mk hC
  have HC := HC9
  have HS9 := Aside0.mk hb
  have HB9 := Aside0.mk (show Below w.heap.size w w9 from HB8.out.trans (hb.mono HB8.out.size))
  clear hC hb
  have hcall := ahead_any A9 c9 h0 2 1 w9 HC9.out
  go_wp2_with fail
  refine hcall.mono ?_
  rintro e w10 ⟨rfl, hb⟩
  have HS10 := Aside0.mk hb
  have HB10 := Aside0.mk (HB9.out.trans (hb.mono HB9.out.size))
  clear hb hcall
  rw [e_a2]
  go_wp2_with fail
  refine (some_any w10).mono ?_
  rintro e w11 ⟨A11, c11, rfl, hc11, hC, hb⟩
  have HC11 := Aside0.mk hC
  have HC := HC11
  have HS11 := Aside0.mk hb
  have HB11 := Aside0.mk (show Below w.heap.size w w11 from HB10.out.trans (hb.mono HB10.out.size))
  clear hC hb
  go_wp2_with fail
  have hbl := blk_new w11 (.cells #[.int .i64 1, .int .i64 2, .int .i64 3] 3)
  have hba := (Below.refl w11.heap.size w11).alloc (Nat.le_refl _) (.cells #[.int .i64 1, .int .i64 2, .int .i64 3] 3)
  have HBA11 := Aside0.mk (HB11.out.trans (hba.mono HB11.out.size))
  have hcl : Kd.C (Kd.int .i64) (w11.alloc (.cells #[.int .i64 1, .int .i64 2, .int .i64 3] 3)) (some ⟨w11.heap.size, 0, none⟩) 3 ([1, 2, 3] : List Int) := C_blk (l := ([1, 2, 3] : List Int)) hbl (by decide) (fun t y hy => by
    match t, hy with
    | 0, hy => cases hy; rfl
    | 1, hy => cases hy; rfl
    | 2, hy => cases hy; rfl
    | t + 3, hy => simp at hy)
  have hcall : Calls Try.prog 17 #[.slice A11 h0.length c11, .slice (some ⟨w11.heap.size, 0, none⟩) 3 3] (w11.alloc (.cells #[.int .i64 1, .int .i64 2, .int .i64 3] 3)) fun e w' => e = .returned (.bool (respH h0 [1, 2, 3])) ∧ Below (w11.alloc (.cells #[.int .i64 1, .int .i64 2, .int .i64 3] 3)).heap.size (w11.alloc (.cells #[.int .i64 1, .int .i64 2, .int .i64 3] 3)) w' := respects_any A11 c11 h0 (some ⟨w11.heap.size, 0, none⟩) 3 [1, 2, 3] (w11.alloc (.cells #[.int .i64 1, .int .i64 2, .int .i64 3] 3)) (Kd.C_below HC11.out hba) hc11 (by decide) hcl (by decide) (by decide)
  rw [e_r1] at hcall
  generalize w11.alloc (.cells #[.int .i64 1, .int .i64 2, .int .i64 3] 3) = wa11 at *
  clear hbl hba hcl
  refine hcall.mono ?_
  rintro e w12 ⟨rfl, hb⟩
  have HB12 := Aside0.mk (HBA11.out.trans (hb.mono HBA11.out.size))
  clear hb hcall
  go_wp2_with fail
  refine (some_any w12).mono ?_
  rintro e w13 ⟨A13, c13, rfl, hc13, hC, hb⟩
  have HC13 := Aside0.mk hC
  have HC := HC13
  have HS13 := Aside0.mk hb
  have HB13 := Aside0.mk (show Below w.heap.size w w13 from HB12.out.trans (hb.mono HB12.out.size))
  clear hC hb
  go_wp2_with fail
  have hbl := blk_new w13 (.cells #[.int .i64 3, .int .i64 2] 3)
  have hba := (Below.refl w13.heap.size w13).alloc (Nat.le_refl _) (.cells #[.int .i64 3, .int .i64 2] 3)
  have HBA13 := Aside0.mk (HB13.out.trans (hba.mono HB13.out.size))
  have hcl : Kd.C (Kd.int .i64) (w13.alloc (.cells #[.int .i64 3, .int .i64 2] 3)) (some ⟨w13.heap.size, 0, none⟩) 2 ([3, 2] : List Int) := C_blk (l := ([3, 2] : List Int)) hbl (by decide) (fun t y hy => by
    match t, hy with
    | 0, hy => cases hy; rfl
    | 1, hy => cases hy; rfl
    | t + 2, hy => simp at hy)
  have hcall : Calls Try.prog 17 #[.slice A13 h0.length c13, .slice (some ⟨w13.heap.size, 0, none⟩) 2 2] (w13.alloc (.cells #[.int .i64 3, .int .i64 2] 3)) fun e w' => e = .returned (.bool (respH h0 [3, 2])) ∧ Below (w13.alloc (.cells #[.int .i64 3, .int .i64 2] 3)).heap.size (w13.alloc (.cells #[.int .i64 3, .int .i64 2] 3)) w' := respects_any A13 c13 h0 (some ⟨w13.heap.size, 0, none⟩) 2 [3, 2] (w13.alloc (.cells #[.int .i64 3, .int .i64 2] 3)) (Kd.C_below HC13.out hba) hc13 (by decide) hcl (by decide) (by decide)
  rw [e_r2] at hcall
  generalize w13.alloc (.cells #[.int .i64 3, .int .i64 2] 3) = wa13 at *
  clear hbl hba hcl
  refine hcall.mono ?_
  rintro e w14 ⟨rfl, hb⟩
  have HB14 := Aside0.mk (HBA13.out.trans (hb.mono HBA13.out.size))
  clear hb hcall
  go_wp2_with fail
  go_ret
  exact ⟨rfl, HB14.out⟩
end Go.Proofs.Ytncdeappiooccaa.H
