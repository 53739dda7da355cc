/- TreeFull: walked. -/
import Derived.Test.YtbiccahkniadfaaTreeC
namespace Go.Proofs.Ytbiccahkniadfaa.H
open Go.RowKit Go.Proofs.Ytbiccahkniadfaa.P Go.Proofs.YtbiccahkniadfaaW.PrintWords Go.Proofs.YtbiccahkniadfaaW.PrintLast Go.Proofs.YtbiccahkniadfaaW.PrintMore
set_option linter.unusedVariables false
set_option linter.unusedSimpArgs false
theorem wf_u64 {n : Int} (h : (Lit.int .u64 n).wf = true) : 0 ≤ n ∧ n < 18446744073709551616 := by
  simp only [Lit.wf, Bool.and_eq_true, decide_eq_true_eq] at h
  have h1 : IntKind.u64.min = 0 := rfl
  have h2 : IntKind.u64.max = 18446744073709551615 := rfl
  omega
theorem high1024 (w : World) : Calls Try.prog 16 #[.int .i64 1024] w fun e w' => e = .returned (.int .i64 17) ∧ Below w.heap.size w w' := by
  refine (waystoneref04_High.calls 20 1024 17 w high_f).mono ?_
  rintro e w' ⟨rfl, ⟨n, rfl⟩⟩
  exact ⟨rfl, below_drewN (Below.refl _ _) n⟩
set_option maxRecDepth 20000 in
set_option maxHeartbeats 2000000 in
theorem TreeFull_any (a st : Int) (w : World) (wa : (Lit.int .u64 a).wf = true) (ws : (Lit.int .u64 st).wf = true) :
    Calls Try.prog 3 #[.int .u64 a, .int .u64 st] w fun e w' => e = .returned (.bool true) ∧ Below w.heap.size w w' := by
  obtain ⟨a0, a1⟩ := wf_u64 wa
  have HA := Aside0.mk (And.intro a0 a1)
  obtain ⟨o, ho⟩ : ∃ o, IntKind.u64.wrap (IntKind.u64.wrap (2 * st) + 1) = o := ⟨_, rfl⟩
  obtain ⟨q, hq⟩ : ∃ q, o = 2 * q + 1 := ⟨o / 2, by rw [← ho, wrapu, wrapu]; omega⟩
  have HQ := Aside0.mk hq
  clear a0 a1 wa ws hq
  go_enter Try.func3, Try.ntmps3
  go_wp2_with fail
  refine (new_any w).mono ?_
  rintro e w1 ⟨⟨g0, rfl, h0⟩, hb1⟩
  have HB1 := Aside0.mk hb1
  have H0 := Aside0.mk h0
  clear hb1 h0
  go_wp2_with fail
  clear ho
  go_loopw [5, 7] (fun s5 s7 wr => ∃ (j : Nat) (P : Option Addr) (t : T), j ≤ 1024 ∧ s5 = .pointer P ∧ s7 = .int .i64 j ∧ Aside0 (RootAt wr P t) ∧ Aside0 (InvF a o j t) ∧ Aside0 (Below w.heap.size w wr)) (fun _ c _ => 1024 - (intOf c).toNat)
  case atStart => exact ⟨0, _, .leaf, Nat.zero_le _, rfl, rfl, H0, ⟨InvF.start a o⟩, HB1⟩
  case round =>
    obtain ⟨j, P, t, hj, rfl, rfl, HT, HI, HB⟩ := hrel
    by_cases hlt : j < 1024
    · have hjl : (j : Int) < 1024 := by omega
      have wj : IntKind.u64.wrap (j : Int) = (j : Int) := by rw [wrapu]; omega
      obtain ⟨kk, hkk⟩ : ∃ kk, IntKind.u64.wrap (a + IntKind.u64.wrap ((j : Int) * o)) = kk := ⟨_, rfl⟩
      have HS := Aside0.mk (show fullT kk t = false ∧ InvF a o (j + 1) (withT kk j t) from by
        have h1 := HI.out
        have e : kk = keyF a o j := hkk.symm
        rw [e]
        rw [HQ.out] at h1 ⊢
        exact h1.step hlt j)
      have hput := put_ok P kk (j : Int) t wr HT.out (by rw [HI.out.size]; omega) HS.out.1
      go_wp2_with fail
      refine hput.mono ?_
      rintro e w2 ⟨⟨g2, rfl, h2⟩, hb⟩
      have HT2 := Aside0.mk h2
      have HB2 := Aside0.mk (HB.out.trans (hb.mono HB.out.size))
      clear hput hb h2
      go_wp2_with fail
      go_roundw
      case rel => exact ⟨j + 1, _, withT kk j t, by omega, rfl, by go_num, HT2, ⟨HS.out.2⟩, HB2⟩
      case measure => simp [intOf]; omega
    · obtain rfl : j = 1024 := by omega
      obtain ⟨kk, hkk⟩ : ∃ kk, IntKind.u64.wrap (a + IntKind.u64.wrap (1024 * o)) = kk := ⟨_, rfl⟩
      have HE := Aside0.mk (show EndF a kk t from by
        have h1 := HI.out
        have e : kk = keyF a o 1024 := hkk.symm
        rw [e]
        rw [HQ.out] at h1 ⊢
        exact h1.finish HA.out.1 HA.out.2)
      clear HI HQ HB1 H0
      have p1 := put_full P kk 0 t wr HT.out (by rw [HE.out.size]; decide) HE.out.full
      go_wp2_with fail
      refine p1.mono ?_
      rintro e w2 ⟨rfl, hb⟩
      have HB2 := Aside0.mk (HB.out.trans (hb.mono HB.out.size))
      have HT2 := Aside0.mk (HT.out.below hb)
      clear p1 hb HB HT
      go_wp2_with fail
      refine (put_ok P a 7 t w2 HT2.out (by rw [HE.out.size]; decide) HE.out.nofull).mono ?_
      rintro e w3 ⟨⟨gu, rfl, hu⟩, hb⟩
      have HB3 := Aside0.mk (HB2.out.trans (hb.mono HB2.out.size))
      have HT3 := Aside0.mk (HT2.out.below hb)
      have HU3 := Aside0.mk hu
      clear hb hu HB2 HT2
      go_wp2_with fail
      refine (drop_ok P a t w3 HT3.out (by rw [HE.out.size]; decide) HE.out.has).mono ?_
      rintro e w4 ⟨⟨gv, rfl, hv⟩, hb⟩
      have HB4 := Aside0.mk (HB3.out.trans (hb.mono HB3.out.size))
      have HT4 := Aside0.mk (HT3.out.below hb)
      have HU4 := Aside0.mk (HU3.out.below hb)
      have HV4 := Aside0.mk hv
      clear hb hv HB3 HT3 HU3
      go_wp2_with fail
      refine (put_ok _ kk 0 (withoutT a t) w4 HV4.out (by rw [HE.out.lesser]; decide) HE.out.room).mono ?_
      rintro e w5 ⟨⟨gw, rfl, hw⟩, hb⟩
      have HB5 := Aside0.mk (HB4.out.trans (hb.mono HB4.out.size))
      have HT5 := Aside0.mk (HT4.out.below hb)
      have HU5 := Aside0.mk (HU4.out.below hb)
      have HW5 := Aside0.mk hw
      clear hb hw HB4 HT4 HU4 HV4
      have hget := get_any _ a (withT a 7 t) w5 HU5.out
      rw [HE.out.got] at hget
      go_wp2_with fail
      refine hget.mono ?_
      rintro e w6 ⟨rfl, rfl⟩
      clear hget
      go_wp2_with fail
      refine (alive_any w6).mono ?_
      rintro e w7 ⟨rfl, hb⟩
      have HB7 := Aside0.mk (HB5.out.trans (hb.mono HB5.out.size))
      have HT7 := Aside0.mk (HT5.out.below hb)
      have HW7 := Aside0.mk (HW5.out.below hb)
      clear hb HB5 HT5 HU5 HW5
      have l1 := len_any _ (withT kk 0 (withoutT a t)) w7 HW7.out
      have l2 := len_any _ t w7 HT7.out
      have l3 := height_any _ t w7 HT7.out
      have hlow := HE.out.low
      rw [HE.out.again] at l1
      rw [HE.out.size] at l2
      have hh17 : ((ht t : Nat) : Int) ≤ 17 := by omega
      clear hlow hkk
      generalize ((ht t : Nat) : Int) = hgt at *
      go_wp2_with fail
      refine l1.mono ?_
      rintro e w8 ⟨rfl, rfl⟩
      go_wp2_with fail
      refine l2.mono ?_
      rintro e w8 ⟨rfl, rfl⟩
      go_wp2_with fail
      refine l3.mono ?_
      rintro e w8 ⟨rfl, rfl⟩
      go_wp2_with fail
      refine (high1024 w8).mono ?_
      rintro e w9 ⟨rfl, hb⟩
      have HB9 := Aside0.mk (HB7.out.trans (hb.mono HB7.out.size))
      clear hb l1 l2 l3
      go_wp2_with fail
      go_ret
      exact ⟨rfl, HB9.out⟩
end Go.Proofs.Ytbiccahkniadfaa.H
