/- OnesCount64, plain: how many bits are set. -/
import Derived.Test.YtdhkhbejedndoaaDoorBit1
import Derived.Test.YtdhkhbejedndoaaDoorPx1
namespace Go.Proofs.YtdhkhbejedndoaaDoor.H
open Go.RowKit Go.Proofs.YtdhkhbejedndoaaDoor.P Go.Proofs.YtdhkhbejedndoaaDoorW.PrintWords
set_option linter.unusedVariables false
set_option linter.unusedSimpArgs false
theorem wrap_nat (n : Nat) (h : n < 18446744073709551616) : IntKind.u64.wrap (n : Int) = (n : Int) := by rw [IntKind.wrap_u64]; omega
theorem and_nat (a b : Nat) (ha : a < 18446744073709551616) (hb : b < 18446744073709551616) : Go.bits .and .u64 (a : Int) (b : Int) = ((a &&& b : Nat) : Int) := bits_and_u64_nat a b ha hb
theorem div_nat (a b : Nat) : ((a : Int) / (b : Int)) = ((a / b : Nat) : Int) := (Int.natCast_ediv a b).symm
theorem y3_digits (x : Nat) : ∃ c0 c1 c2 c3 c4 c5 c6 c7 : Nat, c0 ≤ 8 ∧ c1 ≤ 8 ∧ c2 ≤ 8 ∧ c3 ≤ 8 ∧ c4 ≤ 8 ∧ c5 ≤ 8 ∧ c6 ≤ 8 ∧ c7 ≤ 8 ∧
    y3 8 x = c0 + 256 * (c1 + 256 * (c2 + 256 * (c3 + 256 * (c4 + 256 * (c5 + 256 * (c6 + 256 * c7)))))) ∧ popN 64 x = c0 + (c1 + (c2 + (c3 + (c4 + (c5 + (c6 + c7)))))) := by
  refine ⟨popN 8 x, popN 8 (x / 256), popN 8 (x / 256 / 256), popN 8 (x / 256 / 256 / 256), popN 8 (x / 256 / 256 / 256 / 256), popN 8 (x / 256 / 256 / 256 / 256 / 256), popN 8 (x / 256 / 256 / 256 / 256 / 256 / 256), popN 8 (x / 256 / 256 / 256 / 256 / 256 / 256 / 256),
    popN_le 8 _, popN_le 8 _, popN_le 8 _, popN_le 8 _, popN_le 8 _, popN_le 8 _, popN_le 8 _, popN_le 8 _, ?_, ?_⟩
  · simp only [y3, Nat.mul_zero, Nat.add_zero]
  · have h : ∀ n y, popN (8 + n) y = popN 8 y + popN n (y / 256) := fun n y => popN_add 8 n y
    rw [show (64 : Nat) = 8 + 56 from rfl, h, show (56 : Nat) = 8 + 48 from rfl, h, show (48 : Nat) = 8 + 40 from rfl, h, show (40 : Nat) = 8 + 32 from rfl, h, show (32 : Nat) = 8 + 24 from rfl, h, show (24 : Nat) = 8 + 16 from rfl, h, show (16 : Nat) = 8 + 8 from rfl, h]
theorem wraps_i64 (n : Int) (h₀ : 0 ≤ n) (h₁ : n < 2 ^ 63) : IntKind.i64.wrap n = n := by rw [IntKind.wrap_i64]; omega
theorem dig1 (X c q : Nat) (h : X = c + 256 * q) (hc : c < 256) : X / 256 = q := by omega
theorem dig2 (X a b q : Nat) (h : X = a + 256 * (b + 256 * q)) (ha : a < 256) (hb : b < 256) : X / 65536 = q := by omega
theorem dig4 (X a b c d q : Nat) (h : X = a + 256 * (b + 256 * (c + 256 * (d + 256 * q)))) (ha : a < 256) (hb : b < 256) (hc : c < 256) (hd : d < 256) : X / 4294967296 = q := by omega
theorem dig7 (X a q : Nat) (h : X = a + 256 * q) (ha : a < 128) : X % 128 = a := by omega
theorem fold_eq (Y X1 X2 X3 : Nat) (h1 : X1 = Y + Y / 256) (h2 : X2 = X1 + X1 / 65536) (h3 : X3 = X2 + X2 / 4294967296) (hl : X3 < 9223372036854775808) :
    Go.bits .and .i64 (wrap64 (IntKind.u64.wrap (IntKind.u64.wrap (IntKind.u64.wrap ((Y : Int) + (Y : Int) / 256) + IntKind.u64.wrap ((Y : Int) + (Y : Int) / 256) / 65536) + IntKind.u64.wrap (IntKind.u64.wrap ((Y : Int) + (Y : Int) / 256) + IntKind.u64.wrap ((Y : Int) + (Y : Int) / 256) / 65536) / 4294967296))) 127 = ((X3 % 128 : Nat) : Int) := by
  have l2 : X2 < 9223372036854775808 := Nat.lt_of_le_of_lt (by rw [h3]; exact Nat.le_add_right _ _) hl
  have l1 : X1 < 9223372036854775808 := Nat.lt_of_le_of_lt (by rw [h2]; exact Nat.le_add_right _ _) l2
  have e1 : IntKind.u64.wrap ((Y : Int) + (Y : Int) / 256) = (X1 : Int) := by
    rw [show (Y : Int) / 256 = ((Y / 256 : Nat) : Int) from div_nat Y 256, ← Int.natCast_add, ← h1]; exact wrap_nat X1 (by omega)
  have e2 : IntKind.u64.wrap ((X1 : Int) + (X1 : Int) / 65536) = (X2 : Int) := by
    rw [show (X1 : Int) / 65536 = ((X1 / 65536 : Nat) : Int) from div_nat X1 65536, ← Int.natCast_add, ← h2]; exact wrap_nat X2 (by omega)
  have e3 : IntKind.u64.wrap ((X2 : Int) + (X2 : Int) / 4294967296) = (X3 : Int) := by
    rw [show (X2 : Int) / 4294967296 = ((X2 / 4294967296 : Nat) : Int) from div_nat X2 4294967296, ← Int.natCast_add, ← h3]; exact wrap_nat X3 (by omega)
  clear h1 h2 h3 l1 l2
  rw [e1, e2, e3]
  have e4 : wrap64 (X3 : Int) = (X3 : Int) := by unfold wrap64; omega
  rw [e4]
  have p63 : ((2 : Int) ^ 63) = 9223372036854775808 := by decide
  have := bits_mask .i64 63 (by decide) wraps_i64 7 (by decide) (X3 : Int) (by omega) (by omega)
  rw [show ((2 : Int) ^ 7 - 1) = 127 from by decide, show ((2 : Int) ^ 7) = 128 from by decide] at this
  rw [this]
  omega
theorem bnd (a q A Q : Nat) (ha : a ≤ A) (hq : q ≤ Q) : a + 256 * q ≤ A + 256 * Q := by omega
theorem digits_fold (c0 c1 c2 c3 c4 c5 c6 c7 : Nat) (b0 : c0 ≤ 8) (b1 : c1 ≤ 8) (b2 : c2 ≤ 8) (b3 : c3 ≤ 8) (b4 : c4 ≤ 8) (b5 : c5 ≤ 8) (b6 : c6 ≤ 8) (b7 : c7 ≤ 8) :
    Go.bits .and .i64 (wrap64 (IntKind.u64.wrap (IntKind.u64.wrap (IntKind.u64.wrap (((c0 + 256 * (c1 + 256 * (c2 + 256 * (c3 + 256 * (c4 + 256 * (c5 + 256 * (c6 + 256 * c7)))))) : Nat) : Int) + ((c0 + 256 * (c1 + 256 * (c2 + 256 * (c3 + 256 * (c4 + 256 * (c5 + 256 * (c6 + 256 * c7)))))) : Nat) : Int) / 256) + IntKind.u64.wrap (((c0 + 256 * (c1 + 256 * (c2 + 256 * (c3 + 256 * (c4 + 256 * (c5 + 256 * (c6 + 256 * c7)))))) : Nat) : Int) + ((c0 + 256 * (c1 + 256 * (c2 + 256 * (c3 + 256 * (c4 + 256 * (c5 + 256 * (c6 + 256 * c7)))))) : Nat) : Int) / 256) / 65536) + IntKind.u64.wrap (IntKind.u64.wrap (((c0 + 256 * (c1 + 256 * (c2 + 256 * (c3 + 256 * (c4 + 256 * (c5 + 256 * (c6 + 256 * c7)))))) : Nat) : Int) + ((c0 + 256 * (c1 + 256 * (c2 + 256 * (c3 + 256 * (c4 + 256 * (c5 + 256 * (c6 + 256 * c7)))))) : Nat) : Int) / 256) + IntKind.u64.wrap (((c0 + 256 * (c1 + 256 * (c2 + 256 * (c3 + 256 * (c4 + 256 * (c5 + 256 * (c6 + 256 * c7)))))) : Nat) : Int) + ((c0 + 256 * (c1 + 256 * (c2 + 256 * (c3 + 256 * (c4 + 256 * (c5 + 256 * (c6 + 256 * c7)))))) : Nat) : Int) / 256) / 65536) / 4294967296)) ) 127 = ((c0 + (c1 + (c2 + (c3 + (c4 + (c5 + (c6 + c7)))))) : Nat) : Int) := by
  have s0 : c0 < 256 := by omega
  have s1 : c0 + c1 < 256 := by omega
  have s2 : c1 + c2 < 256 := by omega
  have s3 : c0 + c1 + c2 + c3 < 256 := by omega
  have s4 : c1 + c2 + c3 + c4 < 256 := by omega
  have s5 : c2 + c3 + c4 + c5 < 256 := by omega
  have s6 : c3 + c4 + c5 + c6 < 256 := by omega
  have s7 : c0 + (c1 + (c2 + (c3 + (c4 + (c5 + (c6 + c7)))))) < 128 := by omega
  have t0 : c0 + (c1 + (c2 + (c3 + (c4 + (c5 + (c6 + c7)))))) ≤ 64 := by omega
  have t1 : (c1 + c2 + c3 + c4) + (c5 + c6 + c7) ≤ 64 := by omega
  have t2 : (c2 + c3 + c4 + c5) + (c6 + c7) ≤ 64 := by omega
  have t3 : (c3 + c4 + c5 + c6) + c7 ≤ 64 := by omega
  have t4 : c4 + c5 + c6 + c7 ≤ 64 := by omega
  have t5 : c5 + c6 + c7 ≤ 64 := by omega
  have t6 : c6 + c7 ≤ 64 := by omega
  have i1 : (c0 + 256 * (c1 + 256 * (c2 + 256 * (c3 + 256 * (c4 + 256 * (c5 + 256 * (c6 + 256 * c7))))))) + (c1 + 256 * (c2 + 256 * (c3 + 256 * (c4 + 256 * (c5 + 256 * (c6 + 256 * c7)))))) = (c0 + c1) + 256 * ((c1 + c2) + 256 * ((c2 + c3) + 256 * ((c3 + c4) + 256 * ((c4 + c5) + 256 * ((c5 + c6) + 256 * ((c6 + c7) + 256 * c7)))))) := by
    clear s0 s1 s2 s3 s4 s5 s6 s7 t0 t1 t2 t3 t4 t5 t6 b0 b1 b2 b3 b4 b5 b6 b7
    omega
  have i2 : (c0 + c1) + 256 * ((c1 + c2) + 256 * ((c2 + c3) + 256 * ((c3 + c4) + 256 * ((c4 + c5) + 256 * ((c5 + c6) + 256 * ((c6 + c7) + 256 * c7)))))) + ((c2 + c3) + 256 * ((c3 + c4) + 256 * ((c4 + c5) + 256 * ((c5 + c6) + 256 * ((c6 + c7) + 256 * c7))))) = (c0 + c1 + c2 + c3) + 256 * ((c1 + c2 + c3 + c4) + 256 * ((c2 + c3 + c4 + c5) + 256 * ((c3 + c4 + c5 + c6) + 256 * ((c4 + c5 + c6 + c7) + 256 * ((c5 + c6 + c7) + 256 * ((c6 + c7) + 256 * c7)))))) := by
    clear s0 s1 s2 s3 s4 s5 s6 s7 t0 t1 t2 t3 t4 t5 t6 b0 b1 b2 b3 b4 b5 b6 b7 i1
    omega
  have i3 : (c0 + c1 + c2 + c3) + 256 * ((c1 + c2 + c3 + c4) + 256 * ((c2 + c3 + c4 + c5) + 256 * ((c3 + c4 + c5 + c6) + 256 * ((c4 + c5 + c6 + c7) + 256 * ((c5 + c6 + c7) + 256 * ((c6 + c7) + 256 * c7)))))) + ((c4 + c5 + c6 + c7) + 256 * ((c5 + c6 + c7) + 256 * ((c6 + c7) + 256 * c7))) = (c0 + (c1 + (c2 + (c3 + (c4 + (c5 + (c6 + c7))))))) + 256 * (((c1 + c2 + c3 + c4) + (c5 + c6 + c7)) + 256 * (((c2 + c3 + c4 + c5) + (c6 + c7)) + 256 * (((c3 + c4 + c5 + c6) + c7) + 256 * ((c4 + c5 + c6 + c7) + 256 * ((c5 + c6 + c7) + 256 * ((c6 + c7) + 256 * c7)))))) := by
    clear s0 s1 s2 s3 s4 s5 s6 s7 t0 t1 t2 t3 t4 t5 t6 b0 b1 b2 b3 b4 b5 b6 b7 i1 i2
    omega
  obtain ⟨Y, hY⟩ : ∃ Y, Y = c0 + 256 * (c1 + 256 * (c2 + 256 * (c3 + 256 * (c4 + 256 * (c5 + 256 * (c6 + 256 * c7)))))) := ⟨_, rfl⟩
  rw [← hY] at i1 ⊢
  have h1 := dig1 _ _ _ hY s0
  obtain ⟨X1, hX1⟩ : ∃ X1, X1 = Y + Y / 256 := ⟨_, rfl⟩
  have h2 := hX1
  rw [h1, i1] at h2
  have h3 := dig2 _ _ _ _ h2 s1 s2
  obtain ⟨X2, hX2⟩ : ∃ X2, X2 = X1 + X1 / 65536 := ⟨_, rfl⟩
  have h4 := hX2
  rw [h3, h2, i2] at h4
  have h5 := dig4 _ _ _ _ _ _ h4 s3 s4 s5 s6
  obtain ⟨X3, hX3⟩ : ∃ X3, X3 = X2 + X2 / 4294967296 := ⟨_, rfl⟩
  have h6 := hX3
  rw [h5, h4, i3] at h6
  have h8 := dig7 _ _ _ h6 s7
  have h7 : X3 < 9223372036854775808 := by
    rw [h6]
    exact Nat.lt_of_le_of_lt (bnd _ _ _ _ t0 (bnd _ _ _ _ t1 (bnd _ _ _ _ t2 (bnd _ _ _ _ t3 (bnd _ _ _ _ t4 (bnd _ _ _ _ t5 (bnd _ _ _ _ t6 b7))))))) (by decide)
  rw [fold_eq Y X1 X2 X3 hX1 hX2 hX3 h7, h8]
theorem ones_eq (x : Nat) (hx : x < 18446744073709551616) : bits_OnesCount64.f (x : Int) = some ((popN 64 x : Nat) : Int) := by
  have c5 : (6148914691236517205 : Int) = ((6148914691236517205 : Nat) : Int) := rfl
  have c3 : (3689348814741910323 : Int) = ((3689348814741910323 : Nat) : Int) := rfl
  have cf : (1085102592571150095 : Int) = ((1085102592571150095 : Nat) : Int) := rfl
  have l1 := y1_le 32 x
  have l2 := y2_lt 16 x
  have l3 := y3_lt 8 x
  have p1 : (4 : Nat) ^ 32 = 18446744073709551616 := by decide
  have p2 : (16 : Nat) ^ 16 = 18446744073709551616 := by decide
  have p3 : (256 : Nat) ^ 8 = 18446744073709551616 := by decide
  rw [p1] at l1
  rw [p2] at l2
  rw [p3] at l3
  clear p1 p2 p3
  have e1 : IntKind.u64.wrap (Go.bits .and .u64 ((x : Int) / 2) 6148914691236517205 + Go.bits .and .u64 (x : Int) 6148914691236517205) = ((y1 32 x : Nat) : Int) := by
    have h := step1 32 x
    rw [m5_32] at h
    rw [show ((x : Int) / 2) = ((x / 2 : Nat) : Int) from (div_nat x 2), c5, and_nat _ _ (by omega) (by decide), and_nat _ _ hx (by decide), ← Int.natCast_add, h]
    exact wrap_nat _ l1
  have e2 : IntKind.u64.wrap (Go.bits .and .u64 (((y1 32 x : Nat) : Int) / 4) 3689348814741910323 + Go.bits .and .u64 ((y1 32 x : Nat) : Int) 3689348814741910323) = ((y2 16 x : Nat) : Int) := by
    have h := step2 16 x
    rw [m3_16, show 2 * 16 = 32 from rfl] at h
    rw [show (((y1 32 x : Nat) : Int) / 4) = ((y1 32 x / 4 : Nat) : Int) from (div_nat _ 4), c3, and_nat _ _ (by omega) (by decide), and_nat _ _ l1 (by decide), ← Int.natCast_add, h]
    exact wrap_nat _ l2
  have h16 : y2 16 x / 16 + y2 16 x < 18446744073709551616 := by
    have h5 : y2 16 x = popN 4 x + 16 * y2 15 (x / 16) := rfl
    have h6 := y2_lt 15 (x / 16)
    have p4 : (16 : Nat) ^ 15 = 1152921504606846976 := by decide
    rw [p4] at h6
    have h7 := popN_le 4 x
    have h8 : y2 15 (x / 16) ≤ 307445734561825860 := by
      have key : ∀ n y, 15 * y2 n y + 4 ≤ 4 * 16 ^ n := by
        intro n
        induction n with
        | zero => intro y; simp [y2]
        | succ n ih =>
          intro y
          have := ih (y / 16)
          have := popN_le 4 y
          rw [y2, Nat.pow_succ]
          omega
      have := key 15 (x / 16)
      rw [p4] at this
      omega
    omega
  have e3 : Go.bits .and .u64 (IntKind.u64.wrap (((y2 16 x : Nat) : Int) / 16 + ((y2 16 x : Nat) : Int))) 1085102592571150095 = ((y3 8 x : Nat) : Int) := by
    have h := step3 8 x
    rw [mf_8, show 2 * 8 = 16 from rfl] at h
    rw [show (((y2 16 x : Nat) : Int) / 16) = ((y2 16 x / 16 : Nat) : Int) from (div_nat _ 16), ← Int.natCast_add, wrap_nat _ h16, cf, and_nat _ _ h16 (by decide), h]
  unfold bits_OnesCount64.f
  rw [e1, e2, e3]
  congr 1
  obtain ⟨c0, c1, c2, c3, c4, c5, c6, c7, b0, b1, b2, b3, b4, b5, b6, b7, hy, hp⟩ := y3_digits x
  rw [hp]
  rw [hy] at l3 ⊢
  clear e1 e2 e3 l1 l2 h16 hp hy
  exact digits_fold c0 c1 c2 c3 c4 c5 c6 c7 b0 b1 b2 b3 b4 b5 b6 b7
end Go.Proofs.YtdhkhbejedndoaaDoor.H
