/- Num2 -/
import Derived.Test.YtpaknjmcjblahaaCNum1
namespace Go.Proofs.Ytpaknjmcjblahaa.H
open Go.RowKit Go.Proofs.Ytpaknjmcjblahaa.P Go.Proofs.YtpaknjmcjblahaaW.PrintWords Go.Proofs.YtpaknjmcjblahaaW.PrintLast Go.Proofs.YtpaknjmcjblahaaW.PrintMore
set_option linter.unusedVariables false
set_option linter.unusedSimpArgs false
def byteAt (n k i : Nat) : Nat := n / 2 ^ (8 * (k - 1 - i)) % 256
def put (n : Nat) : List Int := if n < 240 then [(n : Int)] else ((239 + (bl n + 7) / 8 : Nat) : Int) :: (List.range ((bl n + 7) / 8)).map fun i => (byteAt n ((bl n + 7) / 8) i : Int)
theorem reads_nums {w : World} {A : Option Addr} {l : List Int} (hr : Kd.C (Kd.int .u8) w A l.length l) : ∀ b, A = some b → ∀ j u, (nums .u8 l)[j]? = some u → w.cell? (b.add j) = some u := by
  rintro b rfl j u hu
  have hj : j < l.length := by
    have := (List.getElem?_eq_some_iff.1 hu).1
    simpa [nums] using this
  obtain ⟨ad, e, hc⟩ := Kd.at_int hr (j : Int) (by omega) (by omega)
  cases e
  simp only [Int.toNat_natCast] at hc
  rw [hc]
  simp only [nums, List.getElem?_map, List.getElem?_eq_getElem hj, Option.map_some, Option.some.injEq] at hu
  rw [← hu, rd]
  simp [List.getD_eq_getElem?_getD, List.getElem?_eq_getElem hj]
theorem put_short (A0 : Option Addr) (c0 : Nat) (l0 : List Int) (a1 : Int) (w : World) (hr0 : Kd.C (Kd.int .u8) w A0 l0.length l0) (hc0 : l0.length ≤ c0) (h0 : 0 ≤ a1) (h1 : a1 < 240) (hl : l0.length + 9 < 140737488355328) :
    Calls Try.prog 52 #[.slice A0 l0.length c0, .int .u64 a1] w fun e w' => ∃ v0_ : Value, e = .returned (v0_) ∧ w'.ownsRow w.heap.size 5 1 v0_ (l0.length + 1) (nums .u8 l0 ++ [.int .u8 a1]) ∧ Below w.heap.size w w' := by
  obtain ⟨i0, hi, hz0, hz1, hz2⟩ := info_parts info5
  have hA : A0 = none → l0.length = 0 ∧ l0.length = 0 := fun h => by
    rcases Nat.eq_zero_or_pos l0.length with h' | h'
    · exact ⟨h', h'⟩
    · obtain ⟨ad, e, _⟩ := hr0.2.2 h'
      rw [h] at e; cases e
  have HA := Aside0.mk hA
  have HR := Aside0.mk hr0
  clear hr0 hA
  go_enter Try.func52, Try.ntmps52
  go_wp2_with (first | (at_builtin; refine wpList_append_grows _ rfl (.tmp 15) (.tmp 18) 37 rfl 5 i0 (.int .u8 0) 1 1 Try.underlying37 hi hz0 hz1 hz2 rfl (by decide) A0 l0.length l0.length (nums .u8 l0) rfl HA.out (by simp [nums]) (reads_nums (Kd.C_alloc HR.out _)) ⟨w.heap.size, 0, none⟩ 1 1 [.int .u8 a1] rfl rfl (cell_one_new _ _ _) (ints_oneCell .u8 [a1]) (by omega) (by unfold maxLen; omega) (by omega) ?_; intro v1 w1 ho1 hg1))
  go_ret
  refine ⟨v1, rfl, own_weaken ho1 (by simp), ((Below.refl _ _).alloc (Nat.le_refl _) _).grown hg1 (by simp) (fun k hk => by cases hk)⟩
set_option maxRecDepth 20000 in
theorem put_long (A0 : Option Addr) (c0 : Nat) (l0 : List Int) (a1 : Int) (w : World) (hr0 : Kd.C (Kd.int .u8) w A0 l0.length l0) (hc0 : l0.length ≤ c0) (h0 : 240 ≤ a1) (h1 : a1 < 18446744073709551616) (hl : l0.length + 9 < 140737488355328) :
    Calls Try.prog 52 #[.slice A0 l0.length c0, .int .u64 a1] w fun e w' => ∃ v0_ : Value, e = .returned (v0_) ∧ w'.ownsRow w.heap.size 5 1 v0_ (l0 ++ put a1.toNat).length (nums .u8 (l0 ++ put a1.toNat)) ∧ Below w.heap.size w w' := by
  obtain ⟨i0, hi, hz0, hz1, hz2⟩ := info_parts info5
  have hA : A0 = none → l0.length = 0 ∧ l0.length = 0 := fun h => by
    rcases Nat.eq_zero_or_pos l0.length with h' | h'
    · exact ⟨h', h'⟩
    · obtain ⟨ad, e, _⟩ := hr0.2.2 h'
      rw [h] at e; cases e
  have HA := Aside0.mk hA
  have HR := Aside0.mk hr0
  have hb : bl a1.toNat ≤ 64 := (bl_lt _ _).2 (by omega)
  have h1' := Aside0.mk h1
  clear hr0 hA h1
  go_enter Try.func52, Try.ntmps52
  go_wp2_with (first | (go_at_call 64; refine (len64_any _ _ (by omega) h1'.out).mono ?_; rintro e w' ⟨rfl, rfl⟩) | (at_builtin; refine wpList_append_grows _ rfl (.tmp 25) (.tmp 29) 37 rfl 5 i0 (.int .u8 0) 1 1 Try.underlying37 hi hz0 hz1 hz2 rfl (by decide) A0 l0.length l0.length (nums .u8 l0) rfl HA.out (by simp [nums]) (reads_nums (Kd.C_alloc HR.out _)) ⟨w.heap.size, 0, none⟩ 1 1 [.int .u8 _] rfl rfl (cell_one_new _ _ _) (ints_oneCell .u8 [_]) (by omega) (by unfold maxLen; omega) (by omega) ?_; intro v1 w1 ho1 hg1))
  obtain ⟨k, hk⟩ : ∃ k : Nat, k = (bl a1.toNat + 7) / 8 := ⟨_, rfl⟩
  have hk' : ((bl a1.toNat : Int) + 8 - 1) / 8 = (k : Int) := by omega
  have hk8 : k ≤ 8 := by omega
  rw [hk'] at ho1 hg1 ⊢
  have hB := ((Below.refl w.heap.size w).alloc (Nat.le_refl _) (.cells #[Value.int IntKind.u8 (239 + k)] 5)).grown hg1 (by simp) (fun k hk => by cases hk)
  have ho2 := own_weaken (base' := w.heap.size) ho1 (by simp)
  have HP := Aside0.mk (show put a1.toNat = _ from if_neg (by omega))
  have HP := Aside0.mk (by have := HP.out; rw [← hk] at this; exact this)
  have H2 := Aside0.mk hk
  clear hk hk' ho1 hg1 hb
  go_loopw [0, 32] (fun v i wr => ∃ j : Nat, j ≤ k ∧ i = .int .i64 j ∧ wr.ownsRow w.heap.size 5 1 v (l0.length + (1 + j)) (nums .u8 (l0 ++ ((239 + k : Nat) : Int) :: (List.range j).map fun i => (byteAt a1.toNat k i : Int))) ∧ Below w.heap.size w wr) (fun _ i _ => k - (intOf i).toNat)
  case atStart => exact ⟨0, Nat.zero_le _, rfl, by simpa [nums] using ho2, hB⟩
  case round =>
    clear ho2 hB
    obtain ⟨j, hj, rfl, hown, hbel⟩ := hrel
    by_cases hlt : j < k
    · have hv : a1 / 2 ^ (8 * (k - 1 - j)) % 256 = (byteAt a1.toNat k j : Int) := by
        obtain ⟨n, rfl⟩ := Int.eq_ofNat_of_zero_le (show 0 ≤ a1 by omega)
        unfold byteAt
        rw [Int.toNat_natCast, Int.natCast_emod, Int.natCast_ediv, Int.natCast_pow]
        rfl
      have HV := Aside0.mk hv
      have H0 := Aside0.mk hown
      clear hv hown
      go_wp2_with (first | (at_builtin; refine wpList_append_own _ rfl (.tmp 35) (.tmp 44) 37 rfl w.heap.size 5 i0 (.int .u8 0) 1 1 Try.underlying37 hi hz0 hz1 hz2 rfl (by decide) _ _ _ rfl (H0.out.alloc _) ⟨wr.heap.size, 0, none⟩ 1 1 [.int .u8 (a1 / 2 ^ (8 * (k - 1 - j)) % 256)] rfl rfl (cell_one_new _ _ _) (ints_oneCell .u8 [_]) (by unfold maxLen; omega) (by omega) (by have := hbel.size; simp; omega) ?_; intro v2 w2 ho3 hg3 _))
      have hB2 := (hbel.alloc hbel.size (.cells #[Value.int .u8 (a1 / 2 ^ (8 * (k - 1 - j)) % 256)] 5)).grown hg3 (by have := hbel.size; simp; omega) (fun q hq => own_base H0.out q hq)
      have ho4 : w2.ownsRow w.heap.size 5 1 v2 (l0.length + (1 + (j + 1))) (nums .u8 (l0 ++ ((239 + k : Nat) : Int) :: (List.range (j + 1)).map fun i => (byteAt a1.toNat k i : Int))) := by
        rw [HV.out] at ho3
        simpa [nums, List.range_succ, Nat.add_assoc] using ho3
      clear ho3 hg3 H0 HV hbel
      go_wp2
      go_roundw
      case rel => exact ⟨j + 1, by omega, by go_num, ho4, hB2⟩
      case measure => simp [intOf]; omega
    · obtain rfl : j = k := by omega
      go_wp2
      go_ret
      refine ⟨_, rfl, ?_, hbel⟩
      rw [HP.out]
      have e : (l0 ++ ((239 + j : Nat) : Int) :: (List.range j).map fun i => (byteAt a1.toNat j i : Int)).length = l0.length + (1 + j) := by simp; omega
      rw [e]
      exact hown
end Go.Proofs.Ytpaknjmcjblahaa.H
