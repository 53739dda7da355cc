import Derived.Test.YtnmmknifidpmbaaNum8
import Derived.Test.YtnmmknifidpmbaaNumP
namespace Go.Proofs.Ytnmmknifidpmbaa.H
open Go.RowKit Go.Proofs.Ytnmmknifidpmbaa.P Go.Proofs.YtnmmknifidpmbaaW.PrintWords Go.Proofs.YtnmmknifidpmbaaW.PrintLast Go.Proofs.YtnmmknifidpmbaaW.PrintMore
set_option linter.unusedVariables false
set_option linter.unusedSimpArgs false

theorem nb_div (m : Nat) (h : 1 ≤ m) : nb m = nb (m / 256) + 1 := by
  by_cases h1 : 256 ≤ m
  · have := bl_div m 8 h1
    rw [show (2 : Nat) ^ 8 = 256 from rfl] at this
    unfold nb
    omega
  · have h2 : m / 256 = 0 := by omega
    rw [h2]
    have h3 := (bl_lt m 8).2 (by omega)
    have h4 := bl_lt m 0
    have h5 : nb 0 = 0 := by decide
    rw [h5]
    unfold nb
    omega

theorem str_size' (l : List Int) : (strOfNums l).size = l.length := by simp [strOfNums, ByteArray.size]
theorem str_sum (l : List Int) (s : ByteArray) : strOfNums (l ++ bytesOf s) = strOfNums l ++ s := by
  apply WideShapes.bytes_inj
  have : ∀ l : List UInt8, l.map ((fun n : Int => UInt8.ofNat n.toNat) ∘ fun b : UInt8 => (b.toNat : Int)) = l := fun l => by
    induction l with
    | nil => rfl
    | cons b l ih => simp [ih]
  simp [strOfNums, bytesOf, ByteArray.data_append, this]

theorem numFew_walk (n : Int) (s : ByteArray) (w : World) (wn : (Lit.int .u64 n).wf = true) (hs : s.size ≤ 140737488351232) : Calls Try.prog 7 #[.int .u64 n, .string s] w fun e w' => e = .returned (.bool true) ∧ Below w.heap.size w w' := by
  have n01 : 0 ≤ n ∧ n < 18446744073709551616 := by
    simp only [Lit.wf, Bool.and_eq_true, decide_eq_true_eq] at wn
    have h1 : IntKind.u64.min = 0 := rfl
    have h2 : IntKind.u64.max = 18446744073709551615 := rfl
    omega
  obtain ⟨n0, n1⟩ := n01
  clear wn
  have HP := Aside0.mk (fun w => put_nil n w n0 n1)
  have HN1 := Aside0.mk n1
  clear n1
  by_cases h400 : (s.size : Int) ≤ 400
  · have HT := Aside0.mk (fun w => text_nil_put s w (by omega))
    have HQ := Aside0.mk (fun w => put_nil (s.size : Int) w (by omega) (by omega))
    go_enter Try.func7, Try.ntmps7
    go_wp2
    go_loop [5, 6] (fun v u => ∃ (a m : Nat), v = .int .i64 (1 + a) ∧ u = .int .u64 m ∧ (m : Int) ≤ n ∧ a ≤ 8 ∧ Aside0 ((240 ≤ n → nb n.toNat = a + nb m) ∧ (n < 240 → a = 0 ∧ m = n.toNat))) (fun _ u => (intOf u).toNat)
    case atStart => exact ⟨0, n.toNat, rfl, by simp; omega, by omega, by omega, ⟨fun _ => by omega, fun _ => ⟨rfl, rfl⟩⟩⟩
    case round =>
      obtain ⟨a, m, rfl, rfl, hm, ha, hA⟩ := hrel
      by_cases h1 : 240 ≤ n ∧ 1 ≤ m
      · obtain ⟨h1, h2⟩ := h1
        have hd1 : decide (240 ≤ n) = true := by simpa using h1
        have hd2 : decide (0 < (m : Int)) = true := by simp; omega
        have ha7 : a + 1 ≤ 8 := by
          have := hA.out.1 h1
          have := nb_le n.toNat (by have := HN1.out; omega)
          have := nb_div m h2
          omega
        have HW := Aside0.mk (IntWalk.u64_in ((m : Int) / 256) (by have := HN1.out; omega))
        go_wp2
        go_round
        case rel => exact ⟨a + 1, m / 256, by go_num, by rw [HW.out]; go_num, by omega, ha7, ⟨fun h => by have := hA.out.1 h; have := nb_div m h2; omega, fun h => by omega⟩⟩
        case measure => rw [HW.out]; simp [intOf]; omega
      · have hlen : (put n.toNat).length = 1 + a := by
          rw [put_len]
          have h0 : nb 0 = 0 := by decide
          by_cases h3 : 240 ≤ n
          · have h4 := hA.out.1 h3
            obtain rfl : m = 0 := by omega
            rw [if_neg (by omega)]
            omega
          · have := hA.out.2 (by omega)
            rw [if_pos (by omega)]
            omega
        have hst := fun (w : World) A c h => Kd.C_string (P := Try.prog) (w := w) (A := A) (n := (put s.size ++ bytesOf s).length) (xs := put s.size ++ bytesOf s) (src := 23) (dst := 9) (c := c) Try.underlying23 Try.underlying5 Try.underlying9 h
        have hst' := fun (w : World) A c h => Kd.C_string (P := Try.prog) (w := w) (A := A) (n := (put s.size).length) (xs := put s.size) (src := 23) (dst := 9) (c := c) Try.underlying23 Try.underlying5 Try.underlying9 h
        have hsum := str_sum (put s.size) s
        have hsz : (strOfNums (put s.size)).size ≤ 9 := by
          rw [str_size']
          exact put_length _ (by omega)
        rw [Int.toNat_natCast] at HQ
        generalize strOfNums (put s.size) = S1 at *
        have hS2 : (strOfNums (put s.size ++ bytesOf s)).size ≤ 9 + s.size := by rw [hsum, ByteArray.size_append]; omega
        generalize strOfNums (put s.size ++ bytesOf s) = S2 at *
        generalize put s.size ++ bytesOf s = L2 at *
        generalize put s.size = L1 at *
        generalize put n.toNat = L3 at *
        have HS := Aside0.mk hst
        have HS' := Aside0.mk hst'
        have HSum := Aside0.mk hsum
        have HLen := Aside0.mk hlen
        clear hst hst' hsum hlen
        have heq : (S2.toList == (S1 ++ s).toList) = true := by rw [HSum.out]; simp
        have hcases : n < 240 ∨ (240 ≤ n ∧ m = 0) := by omega
        clear h1
        rcases hcases with hd1 | ⟨hd1, rfl⟩
        all_goals
          go_wp2_with fail
          refine (HT.out _).mono ?_
          rintro e w1 ⟨⟨A1, c1, rfl, hc1, ho1⟩, hb1⟩
          have HC1 := Aside0.mk (OwnBytes.C ho1)
          have HB1 := Aside0.mk hb1
          clear ho1 hb1
          go_wp2_with fail
          refine (HQ.out _).mono ?_
          rintro e w2 ⟨⟨A2, c2, rfl, hc2, ho2⟩, hb2⟩
          have HC2 := Aside0.mk (OwnBytes.C ho2)
          have HD2 := Aside0.mk (Kd.C_below HC1.out hb2)
          have HB2 := Aside0.mk (HB1.out.trans (hb2.mono HB1.out.size))
          clear ho2 hb2
          go_wp2_with fail
          refine (alive_any _).mono ?_
          rintro e w3 ⟨rfl, hb3⟩
          have HC3 := Aside0.mk (Kd.C_below HC2.out hb3)
          have HD3 := Aside0.mk (Kd.C_below HD2.out hb3)
          have HB3 := Aside0.mk (HB2.out.trans (hb3.mono HB2.out.size))
          clear hb3
          go_wp2_with fail
          refine (HP.out _).mono ?_
          rintro e w4 ⟨⟨A4, c4, rfl, hc4, ho4⟩, hb4⟩
          have hc1 := HS.out w4 A1 c1 (Kd.C_below HD3.out hb4)
          have hc2 := HS'.out w4 A2 c2 (Kd.C_below HC3.out hb4)
          have HB4 := Aside0.mk (HB3.out.trans (hb4.mono HB3.out.size))
          have hlen' : ((L3.length : Int) == 1 + (a : Int)) = true := by simp [HLen.out]
          clear ho4 hb4
          go_wp2
          go_ret
          exact ⟨rfl, HB4.out⟩
  · have h400' : decide ((400 : Int) < s.size) = true := by simp; omega
    go_enter Try.func7, Try.ntmps7
    go_wp2_with (go_at_call 13; refine (alive_any _).mono ?_; rintro e w1 ⟨rfl, hb1⟩; have HB := Aside0.mk hb1; clear hb1)
    go_ret
    exact ⟨rfl, HB.out⟩
end Go.Proofs.Ytnmmknifidpmbaa.H
