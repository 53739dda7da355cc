/- Reg, NumB2, NumW1. -/
import Derived.Deep.RegionHeld3
import Derived.Test.YtpaknjmcjblahaaENumB1
import Derived.Test.YtpaknjmcjblahaaEPx4
import Derived.Test.YtpaknjmcjblahaaEPx5
/-! ### Reg -/
namespace Go.Proofs.Ytpaknjmcjblahaa.H
section
variable {P : Program} {ops : Array Oper} {Q : Exit → Act → World → Prop} {md : Region.Mode} {S : World → Prop}
theorem held_take (i : Nat) (d : Option Tmp) {oi : Oper} {v : Value} {fuel : Nat} {listed : Array Bool} {a : Act} {w : World} (hi : ops[i]? = some oi) (hd : oi.dst = d)
    (hs : Region.noSelect ops = true) (hf : Region.free md ops listed i = true) (hr : (Region.ready md ops listed).contains i = true)
    (hQ : ∀ c a w, Q (.panic c) (a.put d v) w → Q (.panic c) a w) (hw : Region.wanted oi (yielded ops a.tmps) = true) (hy : ∀ w, S w → (execOp a.eval oi).run P w = .ok (.value v) w) (hS : S w)
    (h : wpAnyH P md ops Q S fuel (listed.setIfInBounds i true) (a.put d v) w) : wpAnyH P md ops Q S (fuel + 1) listed a w := by
  subst hd
  exact wpAnyH_take hi hs hf hr hQ (.inl ⟨hw, hy⟩) hS h
theorem held_skip (i : Nat) (d : Option Tmp) {oi : Oper} {fuel : Nat} {listed : Array Bool} {a : Act} {w : World} (hi : ops[i]? = some oi) (hd : oi.dst = d)
    (hs : Region.noSelect ops = true) (hf : Region.free md ops listed i = true) (hr : (Region.ready md ops listed).contains i = true)
    (hQ : ∀ c a w, Q (.panic c) (a.put d undef) w → Q (.panic c) a w) (hw : Region.wanted oi (yielded ops a.tmps) = false) (hS : S w)
    (h : wpAnyH P md ops Q S fuel (listed.setIfInBounds i true) (a.put d undef) w) : wpAnyH P md ops Q S (fuel + 1) listed a w := by
  subst hd
  exact wpAnyH_take hi hs hf hr hQ (.inr ⟨hw, rfl⟩) hS h
end
end Go.Proofs.Ytpaknjmcjblahaa.H
/-! ### NumB2 -/
namespace Go.Proofs.Ytpaknjmcjblahaa.H
open Go.RowKit Go.Proofs.Ytpaknjmcjblahaa.P Go.Proofs.YtpaknjmcjblahaaW.PrintWords Go.Proofs.YtpaknjmcjblahaaW.PrintLast Go.Proofs.YtpaknjmcjblahaaW.PrintMore
set_option linter.unusedVariables false
set_option maxRecDepth 20000
set_option linter.unusedSimpArgs false
theorem put_pos (n : Nat) : (put n).length ≠ 0 := by rw [put_len]; split <;> omega
theorem str_bytesOf (s : ByteArray) : strOfNums (bytesOf s) = s := by
  have := WideShapes.bytes_inj (a := strOfNums (bytesOf s)) (b := s)
  apply WideShapes.bytes_inj
  have : ∀ l : List UInt8, l.map ((fun n : Int => UInt8.ofNat n.toNat) ∘ fun b : UInt8 => (b.toNat : Int)) = l := fun l => by
    induction l with
    | nil => rfl
    | cons b l ih => simp [ih]
  simp [strOfNums, bytesOf, this]
theorem bytesOf_len (s : ByteArray) : (bytesOf s).length = s.size := by
  unfold bytesOf
  rw [List.length_map]
  rfl
end Go.Proofs.Ytpaknjmcjblahaa.H
/-! ### NumW1 -/
namespace Go.Proofs.Ytpaknjmcjblahaa.H
open Go.RowKit Go.Proofs.Ytpaknjmcjblahaa.P Go.Proofs.YtpaknjmcjblahaaW.PrintWords Go.Proofs.YtpaknjmcjblahaaW.PrintLast Go.Proofs.YtpaknjmcjblahaaW.PrintMore
set_option linter.unusedVariables false
set_option maxRecDepth 20000
set_option linter.unusedSimpArgs false
theorem nb_zero : nb 0 = 0 := by decide
theorem nb_div' (m : Nat) (h : 1 ≤ m) : nb m = nb (m / 256) + 1 := by
  obtain ⟨s0, s1, s2⟩ := nb_spec m h
  by_cases h1 : m < 256
  · have : m / 256 = 0 := by omega
    rw [this, nb_zero]
    exact nb_eq m 1 h (by omega) (by simpa using h) (by simpa using h1)
  · have hk : 2 ≤ nb m := by
      rcases Nat.lt_or_ge (nb m) 2 with h2 | h2
      · have := pow_mono (i := nb m) (j := 1) (by omega)
        omega
      · exact h2
    obtain ⟨j, hj⟩ : ∃ j, nb m = j + 2 := ⟨nb m - 2, by omega⟩
    rw [hj] at s1 s2 ⊢
    have e1 : 256 ^ (j + 2 - 1) = 256 ^ j * 256 := Nat.pow_succ ..
    have e2 : 256 ^ (j + 2) = 256 ^ (j + 1) * 256 := Nat.pow_succ ..
    rw [nb_eq (m / 256) (j + 1) (by omega) (by omega) (by simp only [Nat.add_sub_cancel]; rw [Nat.le_div_iff_mul_le (by decide)]; omega) ((Nat.div_lt_iff_lt_mul (by decide)).2 (by omega))]
theorem be_snoc (k n : Nat) : be (k + 1) n = be k (n / 256) ++ [((n % 256 : Nat) : Int)] := by
  unfold be
  rw [List.range_succ, List.map_append]
  congr 1
  · apply List.map_congr_left
    intro i hi
    have hi : i < k := List.mem_range.1 hi
    unfold byteAt
    have e : 8 * (k + 1 - 1 - i) = 8 + 8 * (k - 1 - i) := by omega
    rw [e, Nat.pow_add, ← Nat.div_div_eq_div_mul]
  · simp [byteAt]
theorem ref_loop : ∀ (k : Nat) (n : Nat) (t : List Int), n < 18446744073709551616 → nb n < k → t.length + nb n ≤ 8 → waystoneref01_Put.l0 k n t = some (((239 + nb n + t.length : Nat) : Int) :: (be (nb n) n ++ t))
  | 0, n, t, hn, hk, ht => absurd hk (by omega)
  | k + 1, n, t, hn, hk, ht => by
    unfold waystoneref01_Put.l0
    by_cases h0 : n = 0
    · subst h0
      rw [if_neg (by decide)]
      have hw : wrap64 (239 + (t.length : Int)) % 256 = ((239 + t.length : Nat) : Int) := by
        have : wrap64 (239 + (t.length : Int)) = 239 + (t.length : Int) := by
          unfold wrap64
          omega
        rw [this]
        have := nb_zero
        omega
      simp only [Option.bind_some, hw]
      rw [if_pos (by simp; omega), nb_zero]
      simp [be]
    · have hd := nb_div' n (by omega)
      rw [if_pos (by omega)]
      have e1 : Int.tmod (n : Int) 256 % 256 = ((n % 256 : Nat) : Int) := by
        rw [Int.tmod_eq_emod_of_nonneg (by omega)]
        omega
      have e2 : IntKind.u64.wrap (Int.tdiv (n : Int) 256) = ((n / 256 : Nat) : Int) := by
        rw [Int.tdiv_eq_ediv_of_nonneg (by omega), IntWalk.u64_in _ (by omega)]
        omega
      simp only [Option.bind_some, e1, e2]
      rw [if_pos (by simp; omega), ref_loop k (n / 256) _ (by omega) (by omega) (by simp; omega), hd, be_snoc]
      simp
      omega
theorem ref_put_f (n : Nat) (hn : n < 18446744073709551616) : waystoneref01_Put.f 10 n = some (put n) := by
  unfold waystoneref01_Put.f
  by_cases h : n < 240
  · rw [if_pos (by omega), put_small n h]
    congr 2
    omega
  · have := nb_le n hn
    rw [if_neg (by omega), ref_loop 10 n [] hn (by omega) (by simp; omega), put_large n (by omega)]
    simp
theorem own_of_ref {base : Nat} {l : List Int} {v : Value} {w' : World} (h : Kd.R (Kd.int .u8) 5 w' base (fun _ => True) v l) : OwnBytes base l (.returned v) w' := OwnBytes.mk (Kd.own_of_R h)
theorem refput_any (n : Int) (w : World) (h0 : 0 ≤ n) (h1 : n < 18446744073709551616) :
    Calls Try.prog 53 #[.int .u64 n] w fun e w' => OwnBytes w.heap.size (put n.toNat) e w' ∧ Below w.heap.size w w' := by
  have hf := ref_put_f n.toNat (by omega)
  rw [Int.toNat_of_nonneg h0] at hf
  refine (waystoneref01_Put.calls 10 n _ w hf).mono ?_
  rintro e w' ⟨v, rfl, hR, hb⟩
  exact ⟨own_of_ref hR, hb⟩
end Go.Proofs.Ytpaknjmcjblahaa.H
