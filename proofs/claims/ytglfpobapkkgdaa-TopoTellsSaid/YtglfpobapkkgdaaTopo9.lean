import Derived.Test.YtglfpobapkkgdaaTopo8
namespace Go.Proofs.Ytglfpobapkkgdaa.H
open Go.RowKit Go.Proofs.Ytglfpobapkkgdaa.P Go.Proofs.YtglfpobapkkgdaaW.PrintWords Go.Proofs.YtglfpobapkkgdaaW.PrintLast Go.Proofs.YtglfpobapkkgdaaW.PrintMore
set_option linter.unusedVariables false
set_option linter.unusedSimpArgs false
theorem C_blk {α : Type} {d : Kd α} {w : World} {b : Nat} {t : TypeId} {cs : Array Value} (hb : w.heap[b]? = some (.cells cs t (0, 0))) {xs : List α} (hn : xs.length ≤ 9223372036854775807)
    (h : ∀ j p, xs[j]? = some p → ∃ c, c.length = d.sz ∧ d.K w p c ∧ ∀ i u, c[i]? = some u → cs[j * d.sz + i]? = some u) : d.C w (some ⟨b, 0, none⟩) xs.length xs := by
  refine ⟨rfl, hn, fun _ => ⟨_, rfl, fun j p hj => ?_⟩⟩
  obtain ⟨c, h1, h2, h3⟩ := h j p hj
  refine ⟨c, h1, h2, fun i u hu => ?_⟩
  rw [add_plain, blk_cell hb]
  exact h3 i u hu
def twoL : List S38 := [⟨⟨0, 1⟩, ⟨1, 0⟩⟩]
def twoP : List Int := [2, 1, 1]
/-- The topology that two makes. -/
def TwoAt (B : Nat) (w : World) (e : Ending) (w' : World) : Prop :=
  ∃ A0 A1, e = .returned (.agg #[.slice A0 twoP.length 3, .slice A1 twoL.length 1]) ∧ Kd.C (Kd.int .i64) w' A0 twoP.length twoP ∧ Kd.C k38 w' A1 twoL.length twoL ∧ Below B w w'
set_option maxHeartbeats 1000000 in
theorem two_any (w : World) : Calls Try.prog 30 #[] w fun e w' => TwoAt w.heap.size w e w' := by
  have hu25 := Try.underlying25
  have hu27 := Try.underlying27
  have hu38 := Try.underlying38
  go_enter Try.func30, Try.ntmps30
  go_wp2
  have h0 : (((w.alloc (.cells #[Value.slice (some ⟨w.heap.size + 1, 0, none⟩) 3 3, Value.slice (some ⟨w.heap.size + 1 + 1, 0, none⟩) 1 1] 25)).alloc (.cells #[.int .i64 2, .int .i64 1, .int .i64 1] 3)).alloc (.cells #[.int .i64 0, .int .i64 1, .int .i64 1, .int .i64 0] 38)).heap[w.heap.size]? = some (.cells #[Value.slice (some ⟨w.heap.size + 1, 0, none⟩) 3 3, Value.slice (some ⟨w.heap.size + 1 + 1, 0, none⟩) 1 1] 25 (0, 0)) := by
    simp only [heap_alloc_get, sz_alloc]; rw [if_neg (by omega), if_neg (by omega), if_pos trivial]
  have h1 : (((w.alloc (.cells #[Value.slice (some ⟨w.heap.size + 1, 0, none⟩) 3 3, Value.slice (some ⟨w.heap.size + 1 + 1, 0, none⟩) 1 1] 25)).alloc (.cells #[.int .i64 2, .int .i64 1, .int .i64 1] 3)).alloc (.cells #[.int .i64 0, .int .i64 1, .int .i64 1, .int .i64 0] 38)).heap[w.heap.size + 1]? = some (.cells #[.int .i64 2, .int .i64 1, .int .i64 1] 3 (0, 0)) := by
    simp only [heap_alloc_get, sz_alloc]; rw [if_neg (by omega), if_pos trivial]
  have h2 : (((w.alloc (.cells #[Value.slice (some ⟨w.heap.size + 1, 0, none⟩) 3 3, Value.slice (some ⟨w.heap.size + 1 + 1, 0, none⟩) 1 1] 25)).alloc (.cells #[.int .i64 2, .int .i64 1, .int .i64 1] 3)).alloc (.cells #[.int .i64 0, .int .i64 1, .int .i64 1, .int .i64 0] 38)).heap[w.heap.size + 1 + 1]? = some (.cells #[.int .i64 0, .int .i64 1, .int .i64 1, .int .i64 0] 38 (0, 0)) := by
    simp only [heap_alloc_get, sz_alloc]; rw [if_pos trivial]
  have hb := (((Below.refl w.heap.size w).alloc (Nat.le_refl _) (.cells #[Value.slice (some ⟨w.heap.size + 1, 0, none⟩) 3 3, Value.slice (some ⟨w.heap.size + 1 + 1, 0, none⟩) 1 1] 25)).alloc (by simp) (.cells #[.int .i64 2, .int .i64 1, .int .i64 1] 3)).alloc (by simp; omega) (.cells #[.int .i64 0, .int .i64 1, .int .i64 1, .int .i64 0] 38)
  generalize (((w.alloc (.cells #[Value.slice (some ⟨w.heap.size + 1, 0, none⟩) 3 3, Value.slice (some ⟨w.heap.size + 1 + 1, 0, none⟩) 1 1] 25)).alloc (.cells #[.int .i64 2, .int .i64 1, .int .i64 1] 3)).alloc (.cells #[.int .i64 0, .int .i64 1, .int .i64 1, .int .i64 0] 38)) = W at *
  have k0 := blk_cell h0 0
  have k1 := blk_cell h0 1
  refine bodyPost_ret (v := .agg #[.slice (some ⟨w.heap.size + 1, 0, none⟩) 3 3, .slice (some ⟨w.heap.size + 1 + 1, 0, none⟩) 1 1]) (by simp [results, Try.results30, go_sem, k0, k1]) rfl ⟨_, _, rfl, ?_, ?_, hb⟩
  · refine C_blk h1 (by simp [twoP]) (fun j p hj => ?_)
    match j, hj with
    | 0, hj => simp [twoP] at hj; subst hj; exact ⟨[.int .i64 2], rfl, rfl, fun i u hu => by match i, hu with | 0, hu => simpa using hu⟩
    | 1, hj => simp [twoP] at hj; subst hj; exact ⟨[.int .i64 1], rfl, rfl, fun i u hu => by match i, hu with | 0, hu => simpa [Kd.int, Kd.scalar] using hu⟩
    | 2, hj => simp [twoP] at hj; subst hj; exact ⟨[.int .i64 1], rfl, rfl, fun i u hu => by match i, hu with | 0, hu => simpa [Kd.int, Kd.scalar] using hu⟩
    | j + 3, hj => simp [twoP] at hj
  · refine C_blk h2 (by simp [twoL]) (fun j p hj => ?_)
    match j, hj with
    | 0, hj => simp [twoL] at hj; subst hj; exact ⟨_, rfl, k38_mk _ _, fun i u hu => by simpa using hu⟩
    | j + 1, hj => simp [twoL] at hj
theorem devs_two : devs twoL = [(0, 1)] := rfl
theorem ranged_two : Ranged (devs twoL) 3 := ⟨fun l hl => by rw [devs_two, List.mem_singleton] at hl; subst hl; decide⟩
theorem conn_10 : connB 3 twoL 1 0 = true := (connB_iff _ _ _ _).2 (.step (.self (by decide) (by decide)) (.inr (by rw [devs_two]; exact List.mem_singleton.2 rfl)) (by decide) (by decide))
theorem conn_12 : connB 3 twoL 1 2 = false := by
  cases h : connB 3 twoL 1 2 with
  | false => rfl
  | true =>
    have h1 := (rrounds_conn (devs twoL) 3 1 (by decide) (by decide) ranged_two 2).2 ((connB_iff _ _ _ _).1 h)
    have h2 := h1.2
    revert h2
    decide
set_option maxHeartbeats 2000000 in
theorem alive_any (w : World) : Calls Try.prog 9 #[] w fun e w' => e = .returned (.bool true) ∧ Below w.heap.size w w' := by
  have hu25 := Try.underlying25
  have hu27 := Try.underlying27
  go_enter Try.func9, Try.ntmps9
  go_wp2_with fail
  refine (two_any _).mono ?_
  rintro e w1 ⟨A0, A1, rfl, hC0, hC1, hb1⟩
  have HB1 := Aside0.mk hb1
  have hN := next_any A0 3 twoP A1 1 twoL ⟨1, 0⟩ w1 hC1 (by decide)
  clear hC0 hC1 hb1
  rw [show encP (nextQ twoL ⟨1, 0⟩) = .agg #[.int .i64 0, .int .i64 1] from rfl, show nextB twoL ⟨1, 0⟩ = true from rfl] at hN
  simp only [encP] at hN
  go_wp2_with fail
  refine hN.mono ?_
  rintro e w2 ⟨rfl, hb2⟩
  have HB2 := Aside0.mk (HB1.out.trans (hb2.mono HB1.out.size))
  clear hN hb2
  go_wp2_with fail
  have n2 := blk_new w2 (.cells #[.int .i64 0, .int .i64 1] 27)
  have HB2 := Aside0.mk (HB2.out.alloc HB2.out.size (.cells #[.int .i64 0, .int .i64 1] 27))
  generalize w2.alloc (.cells #[.int .i64 0, .int .i64 1] 27) = W2 at *
  generalize w2.heap.size = b2 at *
  refine (two_any _).mono ?_
  rintro e w3 ⟨A0, A1, rfl, hC0, hC1, hb⟩
  have HB3 := Aside0.mk (HB2.out.trans (hb.mono HB2.out.size))
  have hN := right_any A0 3 twoP A1 1 twoL w3 hC0 hC1 (by decide)
  have n3 := Aside0.mk (blk_below n2 hb)
  clear n2
  clear hC0 hC1 hb
  rw [show rightB twoP twoL = true from by decide] at hN
  go_wp2_with fail
  refine hN.mono ?_
  rintro e w4 ⟨rfl, hb⟩
  have HB4 := Aside0.mk (HB3.out.trans (hb.mono HB3.out.size))
  have n4 := blk_below n3.out hb
  have c0 := blk_cell n4 0
  have c1 := blk_cell n4 1
  clear hN hb n4
  go_wp2_with fail
  refine (two_any _).mono ?_
  rintro e w5 ⟨A0, A1, rfl, hC0, hC1, hb⟩
  have HB5 := Aside0.mk (HB4.out.trans (hb.mono HB4.out.size))
  have hN := edges_any A0 3 twoP A1 1 twoL w5 hC0 hC1 (by decide) (by decide)
  clear hC0 hC1 hb
  rw [show edgesE twoP (joinL twoL) twoP.length = [⟨0, 0⟩, ⟨2, 0⟩] from by decide] at hN
  go_wp2_with fail
  refine hN.mono ?_
  rintro e w6 ⟨⟨v, rfl, hv⟩, hb⟩
  have HB6 := Aside0.mk (HB5.out.trans (hb.mono HB5.out.size))
  obtain ⟨AE, cE, rfl, hcE, hCE⟩ := Kd.R_reads hv
  clear hv hCE
  clear hN hb
  go_wp2_with fail
  refine (two_any _).mono ?_
  rintro e w7 ⟨A0, A1, rfl, hC0, hC1, hb⟩
  have HB7 := Aside0.mk (HB6.out.trans (hb.mono HB6.out.size))
  have hN := reaches_any A0 3 twoP A1 1 twoL 1 0 w7 hC1 (by decide) (by decide) (by decide) ranged_two
  clear hC0 hC1 hb
  rw [show connB twoP.length twoL 1 0 = true from conn_10] at hN
  go_wp2_with fail
  refine hN.mono ?_
  rintro e w8 ⟨rfl, hb⟩
  have HB8 := Aside0.mk (HB7.out.trans (hb.mono HB7.out.size))
  clear hN hb
  go_wp2_with fail
  refine (two_any _).mono ?_
  rintro e w9 ⟨A0, A1, rfl, hC0, hC1, hb⟩
  have HB9 := Aside0.mk (HB8.out.trans (hb.mono HB8.out.size))
  have hN := reaches_any A0 3 twoP A1 1 twoL 1 2 w9 hC1 (by decide) (by decide) (by decide) ranged_two
  clear hC0 hC1 hb
  rw [show connB twoP.length twoL 1 2 = false from conn_12] at hN
  go_wp2_with fail
  refine hN.mono ?_
  rintro e w10 ⟨rfl, hb⟩
  have HB10 := Aside0.mk (HB9.out.trans (hb.mono HB9.out.size))
  clear hN hb
  go_wp2
  go_ret
  exact ⟨rfl, HB10.out⟩
end Go.Proofs.Ytglfpobapkkgdaa.H
