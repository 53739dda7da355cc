/- Num3 -/
import Derived.Test.YtpaknjmcjblahaaCNum2
namespace Go.Proofs.Ytpaknjmcjblahaa.H
open Go.RowKit Go.Proofs.Ytpaknjmcjblahaa.P Go.Proofs.YtpaknjmcjblahaaW.PrintWords Go.Proofs.YtpaknjmcjblahaaW.PrintLast Go.Proofs.YtpaknjmcjblahaaW.PrintMore
set_option linter.unusedVariables false
set_option linter.unusedSimpArgs false
def val (l : List Int) : Int := l.foldl (fun n c => n * 256 + c) 0
theorem val_snoc (l : List Int) (c : Int) : val (l ++ [c]) = val l * 256 + c := by simp [val]
def nextS : List Int → Int × Nat
  | [] => (0, 0)
  | c :: rest => if c < 240 then (c, 1) else
    if 248 ≤ c ∨ rest.length < (c - 239).toNat ∨ rest.getD 0 0 = 0 then (0, 0) else
    if val (rest.take (c - 239).toNat) < 240 then (0, 0) else (val (rest.take (c - 239).toNat), 1 + (c - 239).toNat)
def bytes (l : List Int) : Prop := ∀ x ∈ l, 0 ≤ x ∧ x ≤ 255
theorem bytes_take {l : List Int} (h : bytes l) (k : Nat) : bytes (l.take k) := fun x hx => h x (List.mem_of_mem_take hx)
theorem bytes_drop {l : List Int} (h : bytes l) (k : Nat) : bytes (l.drop k) := fun x hx => h x (List.mem_of_mem_drop hx)
theorem val_bound : ∀ (n : Nat) (l : List Int), l.length = n → bytes l → 0 ≤ val l ∧ val l < 256 ^ n
  | 0, l, hl, _ => by
    obtain rfl := List.eq_nil_of_length_eq_zero hl
    simp [val]
  | n + 1, l, hl, hb => by
    have e : l = l.take n ++ [l.getD n 0] := by
      have h1 : l.take (n + 1) = l := List.take_of_length_le (by omega)
      rw [List.take_succ_eq_append_getElem (by omega)] at h1
      rw [List.getD_eq_getElem?_getD, List.getElem?_eq_getElem (by omega)]
      exact h1.symm
    have h1 := val_bound n (l.take n) (by simp; omega) (bytes_take hb n)
    have h2 : 0 ≤ l.getD n 0 ∧ l.getD n 0 ≤ 255 := by
      rw [List.getD_eq_getElem?_getD, List.getElem?_eq_getElem (by omega)]
      exact hb _ (List.getElem_mem _)
    rw [e, val_snoc, Int.pow_succ]
    omega
theorem val_take {l : List Int} (hb : bytes l) (j : Nat) (hj : j ≤ l.length) : 0 ≤ val (l.take j) ∧ val (l.take j) < 256 ^ j := val_bound j _ (by simp; omega) (bytes_take hb j)
theorem pow_le {j : Nat} (k : Nat) (h : j ≤ k) : (256 : Int) ^ j ≤ 256 ^ k := by
  have := Int.ofNat_le.2 (Nat.pow_le_pow_right (n := 256) (by omega) h)
  rw [Int.natCast_pow, Int.natCast_pow] at this
  exact this
theorem or_byte {n z : Int} (h0 : 0 ≤ n) (h1 : n < 72057594037927936) (h2 : 0 ≤ z) (h3 : z ≤ 255) : bits .or .u64 (IntKind.u64.wrap (n * 256)) z = n * 256 + z := by
  have hw : ∀ m : Int, 0 ≤ m → m < 2 ^ 64 → IntKind.u64.wrap m = m := fun m a b => by
    have e : IntKind.u64.wrap m = m % 18446744073709551616 := by simp [IntKind.wrap, IntKind.bits, IntKind.signed]
    rw [e]
    omega
  rw [hw _ (by omega) (by omega)]
  exact bits_join .u64 64 (by decide) hw 8 _ _ (by omega) (by omega) (by omega) h2 (by omega) (by omega)
theorem next_any (A : Option Addr) (c : Nat) (l : List Int) (w : World) (hr : Kd.C (Kd.int .u8) w A l.length l) (hc : l.length ≤ c) (hb : bytes l) :
    Calls Try.prog 65 #[.slice A l.length c] w fun e w' => e = .returned (.tuple #[.int .u64 (nextS l).1, .int .i64 (nextS l).2]) ∧ w = w' := by
  have HR := Aside0.mk hr
  cases l with
  | nil =>
    go_enter Try.func65, Try.ntmps65
    go_wp2
    go_ret2
    exact ⟨rfl, rfl⟩
  | cons d rest =>
    obtain ⟨ad, e, hx0⟩ := Kd.at_int hr 0 (by omega) (by simp)
    cases e
    simp only [Int.toNat_zero, rd, List.getD_cons_zero, Addr.add_zero'] at hx0
    have hd := hb d (by simp)
    have hlen : (d :: rest).length = rest.length + 1 := rfl
    rw [hlen] at hc ⊢
    by_cases h1 : d < 240
    · clear hr
      have HS := Aside0.mk (show nextS (d :: rest) = (d, 1) by simp [nextS, h1])
      go_enter Try.func65, Try.ntmps65
      go_wp2
      go_ret2
      rw [HS.out]
      exact ⟨rfl, rfl⟩
    · by_cases h2 : 248 ≤ d
      · clear hr
        have HS := Aside0.mk (show nextS (d :: rest) = (0, 0) by simp [nextS, h1, h2])
        go_enter Try.func65, Try.ntmps65
        go_wp2
        go_ret2
        rw [HS.out]
        exact ⟨rfl, rfl⟩
      · by_cases h3 : rest.length < (d - 239).toNat
        · clear hr
          have HS := Aside0.mk (show nextS (d :: rest) = (0, 0) by simp [nextS, h1, h3])
          have h3' : decide ((rest.length : Int) + 1 ≤ d - 240 + 1) = true := by simp; omega
          go_enter Try.func65, Try.ntmps65
          go_wp2
          go_ret2
          rw [HS.out]
          exact ⟨rfl, rfl⟩
        · have hk1 : 1 ≤ rest.length := by omega
          obtain ⟨ad', e, hx1⟩ := Kd.at_int hr 1 (by omega) (by rw [hlen]; omega)
          cases e
          simp only [show (1 : Int).toNat = 1 from rfl, rd, List.getD_cons_succ, Addr.add, Nat.reduceEqDiff, ↓reduceIte] at hx1
          have hd1 : 0 ≤ rest.getD 0 0 ∧ rest.getD 0 0 ≤ 255 := by
            rw [List.getD_eq_getElem?_getD, List.getElem?_eq_getElem (by omega)]
            exact hb _ (List.mem_cons_of_mem _ (List.getElem_mem _))
          generalize hy : rest.getD 0 0 = y at *
          have HY := Aside0.mk hy
          clear hy
          clear hr
          have h3' : decide ((rest.length : Int) + 1 ≤ d - 240 + 1) = false := by simp; omega
          by_cases h4 : y = 0
          · have HS := Aside0.mk (show nextS (d :: rest) = (0, 0) by simp only [nextS]; rw [if_neg h1, if_pos (.inr (.inr (HY.out.trans h4)))])
            subst h4
            go_enter Try.func65, Try.ntmps65
            go_wp2
            go_ret2
            rw [HS.out]
            exact ⟨rfl, rfl⟩
          · have h4' : (y == 0) = false := by simpa using h4
            go_enter Try.func65, Try.ntmps65
            go_wp2
            obtain ⟨k, hk⟩ : ∃ k : Nat, k = (d - 239).toNat := ⟨_, rfl⟩
            have hdk : d - 240 + 1 = (k : Int) := by omega
            have hk2 : k ≤ rest.length := by omega
            have hk3 : k ≤ 8 := by omega
            rw [show (1 + (d - 240 + 1)).toNat - 1 = k by omega, hdk]
            have HK := Aside0.mk hk
            have HD := Aside0.mk hdk
            have HB := Aside0.mk hb
            clear hk hdk h3' hx1 hx0 h4' h3 hlen hb
            go_loop [5, 44] (fun n i => ∃ j : Nat, j ≤ k ∧ i = .int .i64 j ∧ n = .int .u64 (val (rest.take j))) (fun _ i => k - (intOf i).toNat)
            case atStart => exact ⟨0, Nat.zero_le _, rfl, by simp [val]⟩
            case round =>
              obtain ⟨j, hj, rfl, rfl⟩ := hrel
              by_cases hlt : j < k
              · obtain ⟨ad', e, hx⟩ := Kd.at_int HR.out (j + 1 : Nat) (by omega) (by simp; omega)
                cases e
                simp only [Int.toNat_natCast, rd, List.getD_cons_succ, Addr.add, Nat.add_eq_zero_iff, Nat.one_ne_zero, and_false, ↓reduceIte] at hx
                rw [show ad.off + (j + 1) = ad.off + 1 + j by omega] at hx
                have hz : rest.take (j + 1) = rest.take j ++ [rest.getD j 0] := by
                  rw [List.take_succ_eq_append_getElem (by omega), List.getD_eq_getElem?_getD, List.getElem?_eq_getElem (by omega)]; rfl
                have hzb : 0 ≤ rest.getD j 0 ∧ rest.getD j 0 ≤ 255 := by
                  rw [List.getD_eq_getElem?_getD, List.getElem?_eq_getElem (by omega)]
                  exact HB.out _ (List.mem_cons_of_mem _ (List.getElem_mem _))
                have HV := Aside0.mk ((congrArg val hz).trans (val_snoc _ _))
                clear hz
                have hvb := val_take (bytes_drop HB.out 1) j (by simp; omega)
                have hvb7 := pow_le 7 (show j ≤ 7 by omega)
                simp only [List.drop_one, List.tail_cons] at hvb
                generalize rest.getD j 0 = z at *
                generalize val (rest.take j) = n at *
                have HO := Aside0.mk (or_byte hvb.1 (by omega) hzb.1 hzb.2)
                clear hvb hvb7
                go_wp2
                go_round
                case rel => exact ⟨j + 1, by omega, by go_num, by rw [HO.out, HV.out]⟩
                case measure => simp [intOf]; omega
              · obtain rfl : j = k := by omega
                have HS := Aside0.mk (show nextS (d :: rest) = if val (rest.take j) < 240 then (0, 0) else (val (rest.take j), 1 + j) by
                  simp only [nextS]
                  rw [if_neg (by omega), if_neg (by rw [HY.out]; omega), ← HK.out])
                by_cases h5 : val (rest.take j) < 240
                · go_wp2
                  go_ret2
                  rw [HS.out, if_pos h5]
                  exact ⟨rfl, rfl⟩
                · go_wp2
                  go_ret2
                  rw [HS.out, if_neg (by omega)]
                  exact ⟨by simp, rfl⟩
end Go.Proofs.Ytpaknjmcjblahaa.H
