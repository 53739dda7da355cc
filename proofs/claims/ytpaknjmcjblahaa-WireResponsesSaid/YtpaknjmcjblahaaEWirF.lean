/- WirF. -/
import Derived.Test.YtpaknjmcjblahaaEWirQ
import Derived.Test.YtpaknjmcjblahaaEWirE
import Derived.Deep.LoopGhost
namespace Go.Proofs.Ytpaknjmcjblahaa.H
open Go.RowKit Go.Proofs.Ytpaknjmcjblahaa.P Go.Proofs.YtpaknjmcjblahaaW.PrintWords Go.Proofs.YtpaknjmcjblahaaW.PrintLast Go.Proofs.YtpaknjmcjblahaaW.PrintMore
set_option linter.unusedVariables false
set_option linter.unusedSimpArgs false
set_option maxRecDepth 20000
structure Fr (w W : World) (t : Nat) : Prop where
  X : Mine w W t t w.heap.size #[.int .i64 0, .int .i64 0, .slice none 0 0, .slice none 0 0, .bool false, .int .i64 0, .int .u32 0, .slice none 0 0, .int .i64 0, .int .i64 0, .int .i64 0] 50
  K : Keep2 t t w W
theorem Fr.keep {w W W' : World} {t : Nat} (f : Fr w W t) (p : Keep2 t t W W') : Fr w W' t := ⟨f.X.keep p, f.K.trans p⟩
theorem Fr.below {w W W' : World} {t : Nat} (f : Fr w W t) (p : Below W.heap.size W W') : Fr w W' t := f.keep (Keep2.of p)
theorem Fr.far {w W : World} {t b : Nat} {cs : Array Value} {ty : TypeId} (f : Fr w W t) (y : Mine w W t t b cs ty) (n1 : w.heap.size ≠ b) (j : Nat) (u : Value) : Fr w (W.setCell ⟨b, j, none⟩ u) t := ⟨f.X.far n1 j u, f.K.mine y j u⟩
theorem Fr.farRow {w W : World} {t b : Nat} {cs : Array Value} {ty : TypeId} (f : Fr w W t) (y : Mine w W t t b cs ty) (n1 : w.heap.size ≠ b) (c' : Array Value) : Fr w (W.setRow b c') t := ⟨f.X.farRow n1 c', f.K.mineRow y c'⟩
theorem Mine.upto {w W W' : World} {t h b base : Nat} {cs : Array Value} {ty : TypeId} (k : Mine w W t h b cs ty) (hb : b < base) (p : ∀ k, k < base → W'.heap[k]? = W.heap[k]?) : Mine w W' t h b cs ty := ⟨(p b hb).trans k.blk, k.new, k.no, k.n1, k.n2⟩
theorem Fr.grown {α : Type} {d : Kd α} {e base t : Nat} {w W W' : World} {v : Value} {xs : List α} (f : Fr w W t) (hw : w.heap.size < base) (hs : base ≤ W.heap.size) (hR : d.R e W base (fun _ => True) v xs) (hg : W.grownBy W' v.ownBlock) : Fr w W' t :=
  ⟨f.X.upto hw (R_grownBase hR hg hs), ⟨hg.os.trans f.K.os, hg.tape.trans f.K.tape, hg.output.trans f.K.output, Nat.le_trans f.K.size hg.size, fun k hk h1 h2 => (R_grownBase hR hg hs k (by omega)).trans (f.K.block k hk h1 h2)⟩⟩
theorem R_frame {α : Type} {d : Kd α} {e base lo hi : Nat} {W W' : World} {v : Value} {xs : List α} (h : d.R e W base (fun k => lo ≤ k ∧ k < hi) v xs) (hm : ∀ k, lo ≤ k → k < hi → W'.heap[k]? = W.heap[k]?) : d.R e W' base (fun k => lo ≤ k ∧ k < hi) v xs := Kd.R_step h (fun k ho _ => hm k ho.1 ho.2)
theorem R_close {α : Type} {d : Kd α} {e base : Nat} {W : World} {v : Value} {xs : List α} (h : d.R e W base (fun _ => True) v xs) : d.R e W base (fun k => base ≤ k ∧ k < W.heap.size) v xs := Kd.R_mono (Kd.R_bound h) (fun _ hk => ⟨hk.2.1, hk.2.2.1⟩)
theorem own_of3' {w W : World} {B2 B3 B7 H2 H3 H7 : Nat} {v2 v3 v7 : Value} {r : Rs} (h2 : Kd.R (Kd.int .i64) 3 W B2 (fun k => B2 ≤ k ∧ k < H2) v2 r.ids) (h3 : Kd.R k29 29 W B3 (fun k => B3 ≤ k ∧ k < H3) v3 r.rules) (h7 : Kd.R (Kd.int .i64) 3 W B7 (fun k => B7 ≤ k ∧ k < H7) v7 r.dv)
    (hlt : H2 ≤ B7) (b2 : w.heap.size ≤ B2) (b3 : w.heap.size ≤ B3) (b7 : w.heap.size ≤ B7) : OwnRs W w.heap.size v2 v3 v7 r := by
  refine own_of3 (Kd.R_mono h2 (fun _ _ => trivial)) (Kd.R_mono h3 (fun _ _ => trivial)) (Kd.R_mono h7 (fun _ _ => trivial)) (fun k hk => ?_) b2 b3 b7
  have := (h2.1 k hk).2
  omega
theorem keep_range {t lo hi : Nat} {W W' : World} (p : Keep2 t t W W') (ht : t < lo) (hh : hi ≤ W.heap.size) : ∀ k, lo ≤ k → k < hi → W'.heap[k]? = W.heap[k]? := fun k h1 h2 => p.block k (by omega) (by omega) (by omega)
theorem set_range {b lo hi j : Nat} {W : World} {u : Value} (hb : b < lo) : ∀ k, lo ≤ k → k < hi → (W.setCell ⟨b, j, none⟩ u).heap[k]? = W.heap[k]? := fun k h1 _ => Below.heap_setCell W ⟨b, j, none⟩ u k (by show k ≠ b; omega)
theorem row_range {b lo hi : Nat} {W : World} {C : Array Value} (hb : b < lo) : ∀ k, lo ≤ k → k < hi → (W.setRow b C).heap[k]? = W.heap[k]? := fun k h1 _ => heap_setRow (by omega)
theorem below_range {lo hi : Nat} {W W' : World} (p : Below W.heap.size W W') (hh : hi ≤ W.heap.size) : ∀ k, lo ≤ k → k < hi → W'.heap[k]? = W.heap[k]? := fun k _ h2 => p.block k (by omega)
set_option maxHeartbeats 8000000 in
theorem refread_any (A : Option Addr) (c : Nat) (l : List Int) (w : World) (hC : Kd.C (Kd.int .u8) w A l.length l) (hc : l.length ≤ c) (hl : l.length < 140737488355328) (hby : bytes l) :
    Calls Try.prog 19 #[.slice A l.length c] w fun e w' => (∃ v2 v3 v7, e = .returned (.tuple #[.agg (rsVals v2 v3 v7 (readOut l).1).toArray, .int .i64 (readOut l).2]) ∧ OwnRs w' w.heap.size v2 v3 v7 (readOut l).1) ∧ Below w.heap.size w w' := by
  have hb0 : bytes (Mc.mk l false).rest := hby
  rcases q1 : numM 65535 ⟨l, false⟩ with ⟨n1, m1⟩
  have hd1 := numM_bound 65535 ⟨l, false⟩ hb0 (by decide)
  have hb1 := numM_bytes 65535 ⟨l, false⟩ hb0
  rw [q1] at hd1 hb1
  simp only [] at hd1 hb1
  have C1 := Aside0.mk (fun (t : Nat) (W : World) (k : RT W t (⟨l, false⟩)) => refN_any t ⟨l, false⟩ 65535 (by decide) (by decide) W k)
  rw [q1] at C1
  simp only [] at C1
  rcases q2 : numM wideW m1 with ⟨n2, m2⟩
  have hd2 := numM_bound wideW m1 hb1 (by decide)
  have hb2 := numM_bytes wideW m1 hb1
  rw [q2] at hd2 hb2
  simp only [] at hd2 hb2
  have C2 := Aside0.mk (fun (t : Nat) (W : World) (k : RT W t (m1)) => refN_any t m1 wideW (by decide) (by decide) W k)
  rw [q2] at C2
  simp only [] at C2
  rcases p3 : numM 100 m2 with ⟨k3, s3⟩
  have kd3 := numM_bound 100 m2 hb2 (by decide)
  have sb3 := numM_bytes 100 m2 hb2
  rw [p3] at kd3 sb3
  simp only [] at kd3 sb3
  obtain ⟨k3, rfl⟩ := Int.eq_ofNat_of_zero_le kd3.1
  have C3 := Aside0.mk (fun (t : Nat) (W : World) (k : RT W t (m2)) => refN_any t m2 100 (by decide) (by decide) W k)
  rw [p3] at C3
  simp only [] at C3
  rcases q3 : repM (numM wideW) k3 s3 with ⟨n3, m3⟩
  have hl3 : listM (numM wideW) m2 = (n3, m3) := by unfold listM; rw [p3]; exact q3
  have hb3 := repM_bytes (one := (numM wideW)) (fun m hm => numM_bytes wideW m hm) k3 s3 sb3
  rw [q3] at hb3
  simp only [] at hb3
  rcases p4 : numM 100 m3 with ⟨k4, s4⟩
  have kd4 := numM_bound 100 m3 hb3 (by decide)
  have sb4 := numM_bytes 100 m3 hb3
  rw [p4] at kd4 sb4
  simp only [] at kd4 sb4
  obtain ⟨k4, rfl⟩ := Int.eq_ofNat_of_zero_le kd4.1
  have C4 := Aside0.mk (fun (t : Nat) (W : World) (k : RT W t (m3)) => refN_any t m3 100 (by decide) (by decide) W k)
  rw [p4] at C4
  simp only [] at C4
  rcases q4 : repM ruleM k4 s4 with ⟨n4, m4⟩
  have hl4 : listM ruleM m3 = (n4, m4) := by unfold listM; rw [p4]; exact q4
  have hb4 := repM_bytes (one := ruleM) ruleM_bytes k4 s4 sb4
  rw [q4] at hb4
  simp only [] at hb4
  rcases q5 : numM 1 m4 with ⟨n5, m5⟩
  have hd5 := numM_bound 1 m4 hb4 (by decide)
  have hb5 := numM_bytes 1 m4 hb4
  rw [q5] at hd5 hb5
  simp only [] at hd5 hb5
  have C5 := Aside0.mk (fun (t : Nat) (W : World) (k : RT W t (m4)) => refN_any t m4 1 (by decide) (by decide) W k)
  rw [q5] at C5
  simp only [] at C5
  rcases q6 : numM 255 m5 with ⟨n6, m6⟩
  have hd6 := numM_bound 255 m5 hb5 (by decide)
  have hb6 := numM_bytes 255 m5 hb5
  rw [q6] at hd6 hb6
  simp only [] at hd6 hb6
  have C6 := Aside0.mk (fun (t : Nat) (W : World) (k : RT W t (m5)) => refN_any t m5 255 (by decide) (by decide) W k)
  rw [q6] at C6
  simp only [] at C6
  rcases q7 : numM wideW m6 with ⟨n7, m7⟩
  have hd7 := numM_bound wideW m6 hb6 (by decide)
  have hb7 := numM_bytes wideW m6 hb6
  rw [q7] at hd7 hb7
  simp only [] at hd7 hb7
  have C7 := Aside0.mk (fun (t : Nat) (W : World) (k : RT W t (m6)) => refN_any t m6 wideW (by decide) (by decide) W k)
  rw [q7] at C7
  simp only [] at C7
  rcases p8 : numM 100 m7 with ⟨k8, s8⟩
  have kd8 := numM_bound 100 m7 hb7 (by decide)
  have sb8 := numM_bytes 100 m7 hb7
  rw [p8] at kd8 sb8
  simp only [] at kd8 sb8
  obtain ⟨k8, rfl⟩ := Int.eq_ofNat_of_zero_le kd8.1
  have C8 := Aside0.mk (fun (t : Nat) (W : World) (k : RT W t (m7)) => refN_any t m7 100 (by decide) (by decide) W k)
  rw [p8] at C8
  simp only [] at C8
  rcases q8 : repM (numM 255) k8 s8 with ⟨n8, m8⟩
  have hl8 : listM (numM 255) m7 = (n8, m8) := by unfold listM; rw [p8]; exact q8
  have hb8 := repM_bytes (one := (numM 255)) (fun m hm => numM_bytes 255 m hm) k8 s8 sb8
  rw [q8] at hb8
  simp only [] at hb8
  rcases q9 : numM 255 m8 with ⟨n9, m9⟩
  have hd9 := numM_bound 255 m8 hb8 (by decide)
  have hb9 := numM_bytes 255 m8 hb8
  rw [q9] at hd9 hb9
  simp only [] at hd9 hb9
  have C9 := Aside0.mk (fun (t : Nat) (W : World) (k : RT W t (m8)) => refN_any t m8 255 (by decide) (by decide) W k)
  rw [q9] at C9
  simp only [] at C9
  rcases q10 : numM 255 m9 with ⟨n10, m10⟩
  have hd10 := numM_bound 255 m9 hb9 (by decide)
  have hb10 := numM_bytes 255 m9 hb9
  rw [q10] at hd10 hb10
  simp only [] at hd10 hb10
  have C10 := Aside0.mk (fun (t : Nat) (W : World) (k : RT W t (m9)) => refN_any t m9 255 (by decide) (by decide) W k)
  rw [q10] at C10
  simp only [] at C10
  rcases q11 : numM 255 m10 with ⟨n11, m11⟩
  have hd11 := numM_bound 255 m10 hb10 (by decide)
  have hb11 := numM_bytes 255 m10 hb10
  rw [q11] at hd11 hb11
  simp only [] at hd11 hb11
  have C11 := Aside0.mk (fun (t : Nat) (W : World) (k : RT W t (m10)) => refN_any t m10 255 (by decide) (by decide) W k)
  rw [q11] at C11
  simp only [] at C11
  have HD : readM l = (⟨n1, n2, n3, n4, n5 == 1, n6, n7, n8, n9, n10, n11⟩, m11) := by unfold readM; simp only [q1, q2, hl3, hl4, q5, q6, q7, hl8, q9, q10, q11]
  have e7 : IntKind.u32.wrap n7 = n7 := by have : n7 ≤ 4294967295 := hd7.2; have := hd7.1; simp [IntKind.wrap, IntKind.bits, IntKind.signed]; omega
  have HO := Aside0.mk (show readOut l = if m11.bad = true ∨ 0 < m11.rest.length then (zRs, 171) else (⟨n1, n2, n3, n4, n5 == 1, n6, n7, n8, n9, n10, n11⟩, 0) from by unfold readOut; rw [HD])
  generalize readOut l = OUT at *
  obtain ⟨h5, hh5⟩ : ∃ b, (n5 == (1 : Int)) = b := ⟨_, rfl⟩
  rw [hh5] at HO
  have HK3 := Aside0.mk (show k3 ≤ 100 from by have := kd3.2; omega)
  have HQ3 := Aside0.mk q3
  have HK4 := Aside0.mk (show k4 ≤ 100 from by have := kd4.2; omega)
  have HQ4 := Aside0.mk q4
  have HK8 := Aside0.mk (show k8 ≤ 100 from by have := kd8.2; omega)
  have HQ8 := Aside0.mk q8
  clear HD hb0 hb1 q1 hb2 q2 hb3 q3 hb4 q4 hb5 q5 hb6 q6 hb7 q7 hb8 q8 hb9 q9 hb10 q10 hb11 q11 hl3 p3 kd3 sb3 hl4 p4 kd4 sb4 hl8 p8 kd8 sb8 hd1 hd2 hd5 hd6 hd7 hd9 hd10 hd11
  have hC0 := Aside0.mk hC
  clear hC
  go_enter Try.func19, Try.ntmps19
  have hbn := Aside0.mk ((Below.refl w.heap.size w).alloc (Nat.le_refl _) (.cells #[.int .i64 0, .int .i64 0, .slice none 0 0, .slice none 0 0, .bool false, .int .i64 0, .int .u32 0, .slice none 0 0, .int .i64 0, .int .i64 0, .int .i64 0] 50))
  have hbl := Aside0.mk (blk_new w (.cells #[.int .i64 0, .int .i64 0, .slice none 0 0, .slice none 0 0, .bool false, .int .i64 0, .int .u32 0, .slice none 0 0, .int .i64 0, .int .i64 0, .int .i64 0] 50))
  try dsimp only
  repeat ((fail_if_success (show Code.wp _ (Code.seq (Code.region 1 _ _) _) _ _ _)); (first | go_values | go_skip | go_guarded | go_step | go_upon | go_back))
  have hC1 := Aside0.mk (Kd.C_below hC0.out ((Below.refl w.heap.size w).alloc (Nat.le_refl _) (.cells #[.int .i64 0, .int .i64 0, .slice none 0 0, .slice none 0 0, .bool false, .int .i64 0, .int .u32 0, .slice none 0 0, .int .i64 0, .int .i64 0, .int .i64 0] 50)))
  have hs := Aside0.mk (show w.heap.size < (w.alloc (.cells #[.int .i64 0, .int .i64 0, .slice none 0 0, .slice none 0 0, .bool false, .int .i64 0, .int .u32 0, .slice none 0 0, .int .i64 0, .int .i64 0, .int .i64 0] 50)).heap.size from by simp)
  clear hC0
  generalize (w.alloc (.cells #[.int .i64 0, .int .i64 0, .slice none 0 0, .slice none 0 0, .bool false, .int .i64 0, .int .u32 0, .slice none 0 0, .int .i64 0, .int .i64 0, .int .i64 0] 50)) = V0 at *
  try dsimp only
  repeat ((fail_if_success (show Code.wp _ (Code.seq (Code.region 2 _ _) _) _ _ _)); (first | go_values | go_skip | go_guarded | go_step | go_upon | go_back))
  have s0 := hs.out
  have hbm := (Below.refl V0.heap.size V0).alloc (Nat.le_refl _) (.cells #[.slice A l.length c, .int .i64 0, .bool false] 84)
  have T0 := Aside0.mk (show RT (V0.alloc (.cells #[.slice A l.length c, .int .i64 0, .bool false] 84)) V0.heap.size ⟨l, false⟩ from ⟨A, c, l, 0, ⟨blk_new V0 _, Nat.zero_le _, hc, Kd.C_below hC1.out hbm⟩, rfl, hby, BL_of hC1.out⟩)
  have F0 := Aside0.mk (show Fr w (V0.alloc (.cells #[.slice A l.length c, .int .i64 0, .bool false] 84)) V0.heap.size from ⟨⟨blk_below hbl.out hbm, Nat.le_refl _, rfl, by omega, by omega⟩, Keep2.of (hbn.out.trans (hbm.mono (by omega)))⟩)
  have HLT := Aside0.mk (show w.heap.size ≤ V0.heap.size from by omega)
  clear hbm hbl hbn hC1 hs s0 hby
  generalize V0.alloc (.cells #[.slice A l.length c, .int .i64 0, .bool false] 84) = W0 at *
  generalize V0.heap.size = t at *
  go_wp2_with fail
  refine (C1.out t W0 T0.out).mono ?_
  rintro e W1 ⟨rfl, ht, hk⟩
  have F1 := Aside0.mk (F0.out.keep hk)
  have T1 := Aside0.mk ht
  clear ht hk C1 T0 F0
  go_wp2_with fail
  refine (C2.out t W1 T1.out).mono ?_
  rintro e W2 ⟨rfl, ht, hk⟩
  have F2 := Aside0.mk (F1.out.keep hk)
  have T2 := Aside0.mk ht
  clear ht hk C2 T1 F1
  have hbn := (Below.refl W2.heap.size W2).alloc (Nat.le_refl _) (.cells #[.int .i64 0, .int .i64 0, .slice none 0 0, .slice none 0 0, .bool false, .int .i64 0, .int .u32 0, .slice none 0 0, .int .i64 0, .int .i64 0, .int .i64 0] 50)
  have Y3 := Aside0.mk (mine_new F2.out.K T2.out.lt #[.int .i64 0, .int .i64 0, .slice none 0 0, .slice none 0 0, .bool false, .int .i64 0, .int .u32 0, .slice none 0 0, .int .i64 0, .int .i64 0, .int .i64 0] 50 rfl)
  have NE := Aside0.mk (show w.heap.size ≠ W2.heap.size from by have h1 := blk_lt F2.out.X.blk; omega)
  have F3 := Aside0.mk (F2.out.below hbn)
  have T3 := Aside0.mk (T2.out.below hbn)
  clear hbn T2 F2
  try dsimp only
  repeat ((fail_if_success (show Oper.wp _ (Oper.mk none (Op.store _ _ _) _ _ _ _) _ _ _ _)); (first | go_values | go_skip | go_guarded | go_step | go_upon | go_back))
  generalize (W2.alloc (.cells #[.int .i64 0, .int .i64 0, .slice none 0 0, .slice none 0 0, .bool false, .int .i64 0, .int .u32 0, .slice none 0 0, .int .i64 0, .int .i64 0, .int .i64 0] 50)) = W3 at *
  generalize W2.heap.size = b1 at *
  refine wp_store_row (c' := #[.int .i64 n1, .int .i64 n2, .slice none 0 0, .slice none 0 0, .bool false, .int .i64 0, .int .u32 0, .slice none 0 0, .int .i64 0, .int .i64 0, .int .i64 0]) Y3.out.blk rfl rfl rfl rfl (by kernel_rfl) rfl (by simp [Value.oneCell']) ?_
  have F4 := Aside0.mk (F3.out.farRow Y3.out NE.out #[.int .i64 n1, .int .i64 n2, .slice none 0 0, .slice none 0 0, .bool false, .int .i64 0, .int .u32 0, .slice none 0 0, .int .i64 0, .int .i64 0, .int .i64 0])
  have T4 := Aside0.mk (T3.out.farRow Y3.out #[.int .i64 n1, .int .i64 n2, .slice none 0 0, .slice none 0 0, .bool false, .int .i64 0, .int .u32 0, .slice none 0 0, .int .i64 0, .int .i64 0, .int .i64 0])
  have Y4 := Aside0.mk (Y3.out.row #[.int .i64 n1, .int .i64 n2, .slice none 0 0, .slice none 0 0, .bool false, .int .i64 0, .int .u32 0, .slice none 0 0, .int .i64 0, .int .i64 0, .int .i64 0] rfl)
  clear T3 F3 Y3
  generalize W3.setRow b1 #[.int .i64 n1, .int .i64 n2, .slice none 0 0, .slice none 0 0, .bool false, .int .i64 0, .int .u32 0, .slice none 0 0, .int .i64 0, .int .i64 0, .int .i64 0] = W4 at *
  try dsimp only
  repeat ((fail_if_success (show Code.wp _ (Code.seq (Code.region 3 _ _) _) _ _ _)); (first | go_values | go_skip | go_guarded | go_step | go_upon | go_back))
  go_wp2_with fail
  refine (C3.out t W4 T4.out).mono ?_
  rintro e W5 ⟨rfl, ht, hk⟩
  have F5 := Aside0.mk (F4.out.keep hk)
  have T5 := Aside0.mk ht
  have Y5 := Aside0.mk (Y4.out.keep hk)
  clear ht hk C3 T4 F4 Y4
  try dsimp only
  repeat ((fail_if_success (show Code.wp _ (Code.seq (Code.region 4 _ _) _) _ _ _)); (first | go_values | go_skip | go_guarded | go_step | go_upon | go_back))
  have HB3 := Aside0.mk (show t < W5.heap.size ∧ b1 < W5.heap.size ∧ w.heap.size < W5.heap.size from ⟨T5.out.lt.1, blk_lt Y5.out.blk, blk_lt F5.out.X.blk⟩)
  have HR0 := Aside0.mk (show Kd.R (Kd.int .i64) 3 W5 W5.heap.size (fun _ => True) (.slice none 0 0) ([] : List Int) from Kd.R_nil _ _ _ _ _)
  obtain ⟨B3, hB3⟩ : ∃ B, B = W5.heap.size := ⟨_, rfl⟩
  rw [← hB3] at HB3 HR0
  have HBS := Aside0.mk (show B3 ≤ W5.heap.size from Nat.le_of_eq hB3)
  clear hB3
  go_cut [7] from 11 (fun _ wr => ∃ (A : Option Addr) (c : Nat), Aside0 (Kd.R (Kd.int .i64) 3 wr B3 (fun _ => True) (.slice A n3.length c) n3) ∧ Aside0 (Mine w wr t t b1 #[.int .i64 n1, .int .i64 n2, .slice A n3.length c, .slice none 0 0, .bool false, .int .i64 0, .int .u32 0, .slice none 0 0, .int .i64 0, .int .i64 0, .int .i64 0] 50) ∧ Aside0 (Fr w wr t) ∧ Aside0 (RT wr t m3) ∧ Aside0 (B3 ≤ wr.heap.size))
  case first =>
    go_wp2_with fail
    go_loopw [7] (fun u wr => ∃ (j : Nat), u = .int .i64 j ∧ j ≤ k3 ∧ ∃ (A : Option Addr) (c : Nat) (xs : List Int) (mm : Mc), Aside0 (Kd.R (Kd.int .i64) 3 wr B3 (fun _ => True) (.slice A xs.length c) xs) ∧ Aside0 (Mine w wr t t b1 #[.int .i64 n1, .int .i64 n2, .slice A xs.length c, .slice none 0 0, .bool false, .int .i64 0, .int .u32 0, .slice none 0 0, .int .i64 0, .int .i64 0, .int .i64 0] 50) ∧ Aside0 (Fr w wr t) ∧ Aside0 (RT wr t mm) ∧ Aside0 (B3 ≤ wr.heap.size) ∧ Aside0 (xs.length = j) ∧ Aside0 (xs ++ (repM (numM wideW) (k3 - j) mm).1 = n3 ∧ (repM (numM wideW) (k3 - j) mm).2 = m3)) (fun u _ => k3 - (intOf u).toNat)
    case atStart => exact ⟨0, rfl, Nat.zero_le _, none, 0, [], s3, HR0, Y5, F5, T5, HBS, ⟨rfl⟩, ⟨by rw [Nat.sub_zero, HQ3.out]; exact ⟨rfl, rfl⟩⟩⟩
    case round =>
      clear HR0 Y5 F5 T5 HBS HQ3
      obtain ⟨j, rfl, hj, A, c, xs, mm, HR, HY, HF, HT, HS, hxl, HE⟩ := hrel
      obtain ⟨rest, bad⟩ := mm
      obtain ⟨Bx, dx, bx, ix, ⟨hx1, hx2, hx3, hx4⟩, hx5, hx6, hx7⟩ := id HT.out
      have bb := blk_cell hx1 2
      simp only [List.getElem?_toArray, List.getElem?_cons_zero, List.getElem?_cons_succ] at bb
      clear hx1 hx2 hx3 hx4 hx5 hx6 hx7
      by_cases h1 : j < k3
      · have h1z : (j : Int) < (k3 : Int) := by omega
        cases bad with
        | true =>
          have HE2 := Aside0.mk (show xs = n3 ∧ ⟨rest, true⟩ = m3 from by
            have h := HE.out
            rw [show k3 - j = (k3 - j - 1) + 1 from by omega] at h
            simpa [repM] using h)
          clear HE
          go_wp2_with fail
          go_meet
          case rel => exact ⟨A, c, by rw [← HE2.out.1]; exact HR, by rw [← HE2.out.1]; exact HY, HF, by rw [← HE2.out.2]; exact HT, HS⟩
        | false =>
          have HC := Aside0.mk (fun (W : World) (k : RT W t ⟨rest, false⟩) => refN_any t ⟨rest, false⟩ wideW (by decide) (by decide) W k)
          have HE2 := Aside0.mk (show xs ++ (((numM wideW) ⟨rest, false⟩).1 :: (repM (numM wideW) (k3 - (j + 1)) ((numM wideW) ⟨rest, false⟩).2).1) = n3 ∧ (repM (numM wideW) (k3 - (j + 1)) ((numM wideW) ⟨rest, false⟩).2).2 = m3 from by
            have h := HE.out
            rw [show k3 - j = (k3 - (j + 1)) + 1 from by omega] at h
            simpa [repM] using h)
          rcases q : (numM wideW) ⟨rest, false⟩ with ⟨y, m2⟩
          rw [q] at HC HE2
          simp only [] at HC HE2
          have yc := blk_cell HY.out.blk 2
          simp only [List.getElem?_toArray, List.getElem?_cons_zero, List.getElem?_cons_succ] at yc
          have hw := wr1 j (by have := HK3.out; omega)
          try unfold wideW at HC
          try unfold ruleVals at HC
          clear HE q
          go_wp2_with fail
          clear bb
          refine wp_region_held_drew (S := (fun _ => True)) (by kernel_rfl) ?hSp30 (fun hHeld => ?_)
          case hSp30 => exact trivial
          refine held_take 0 (some 33) (v := ?vp30) rfl rfl (by kernel_rfl) (by kernel_rfl) (by kernel_rfl) (fun _ _ _ h => h) (by rfl) ?yp30 (by assumption) ?_
          case yp30 => ((intro w hSw); (try dsimp only at hSw); go_simp <;> (with_reducible rfl))
          try simp only [Act.put, List.setIfInBounds_toArray, List.set_cons_zero, List.set_cons_succ]
          refine held_take 2 (some 35) (v := ?vp32) rfl rfl (by kernel_rfl) (by kernel_rfl) (by kernel_rfl) (fun _ _ _ h => h) (by rfl) ?yp32 (by assumption) ?_
          case yp32 => ((intro w hSw); (try dsimp only at hSw); go_simp <;> (with_reducible rfl))
          try simp only [Act.put, List.setIfInBounds_toArray, List.set_cons_zero, List.set_cons_succ]
          refine wpAnyH_ready (rs := [1, 3]) (by kernel_rfl) (by simp) ?_
          refine AllReadyH.cons rfl (fun K hK => ?_) (AllReadyH.cons rfl (fun K hK => ?_) AllReadyH.nil)
          · go_simp
            refine hK.out _ _ ?hSp3w1_2 (fun hHeld => ?_)
            case hSp3w1_2 => exact trivial
            clear hK K
            try simp only [Act.put, List.setIfInBounds_toArray, List.set_cons_zero, List.set_cons_succ]
            refine wpAnyH_ready (rs := [3]) (by kernel_rfl) (by simp) ?_
            refine AllReadyH.cons rfl (fun K hK => ?_) AllReadyH.nil
            go_simp
            go_at_call 35; (with_reducible refine (HC.out wr.drew (HT.out.below (below_drew (Below.refl _ _)))).mono ?_); rintro e w2 ⟨rfl, ht, hk⟩; have HT2 := Aside0.mk ht; have hkd := (Keep2.of (below_drew (Below.refl wr.heap.size wr)) : Keep2 t t wr wr.drew).trans hk; have HR2 := Aside0.mk (R_keep2 HR.out hkd HB3.out.1 HB3.out.1); have HY2 := Aside0.mk (HY.out.keep hkd); have HF2 := Aside0.mk (HF.out.keep hkd); have HS2 := Aside0.mk (Nat.le_trans HS.out hkd.size); have yc2 := blk_cell HY2.out.blk 2; simp only [List.getElem?_toArray, List.getElem?_cons_zero, List.getElem?_cons_succ] at yc2; clear ht hk hkd
            refine hK.out _ _ ?hSp3w1_4 (fun hHeld => ?_)
            case hSp3w1_4 => exact trivial
            clear hK K
            try simp only [Act.put, List.setIfInBounds_toArray, List.set_cons_zero, List.set_cons_succ]
            refine wpAnyH_ready (rs := [4]) (by kernel_rfl) (by simp) ?_
            refine AllReadyH.cons rfl (fun K hK => ?_) AllReadyH.nil
            go_simp
            have yca := blk_cell (HY2.out.below ((Below.refl _ w2).alloc (Nat.le_refl _) (.cells #[.int .i64 y] 3))).blk 2
            simp only [List.getElem?_toArray, List.getElem?_cons_zero, List.getElem?_cons_succ] at yca
            refine hK.out _ _ ?hSp3w1_5 (fun hHeld => ?_)
            case hSp3w1_5 => exact trivial
            clear hK K
            try simp only [Act.put, List.setIfInBounds_toArray, List.set_cons_zero, List.set_cons_succ]
            refine wpAnyH_ready (rs := [5]) (by kernel_rfl) (by simp) ?_
            refine AllReadyH.cons rfl (fun K hK => ?_) AllReadyH.nil
            refine Kd.R_append_step (Kd.int .i64) (w0 := w2) B3 rfl (.tmp 34) (.tmp 37) 40 3 (.int .i64 0) 8 rfl Try.underlying40 info3 rfl (by decide) (by omega) (.slice A xs.length c) xs y [.int .i64 y] (fun _ => True) (fun _ => False) rfl (by first | (go_simp; done) | (go_simp; rfl)) ?_ (fun _ hk => hk.elim) (fun _ _ => trivial) HR2.out (Below.refl _ _) HS2.out ?_ ?_
            · exact rfl
            · have := HK3.out; have := hxl.out; omega
            intro v1 w3 hv1 hb3 hg3 ho3
            have HG3 := R_grownBase HR2.out hg3 HS2.out
            have HV := Aside0.mk hv1
            have HT3 := Aside0.mk (HT2.out.keepB HB3.out.1 HG3)
            have HY3 := Aside0.mk (HY2.out.upto HB3.out.2.1 HG3)
            have HF3 := Aside0.mk (HF2.out.grown HB3.out.2.2 HS2.out HR2.out hg3)
            have HS3 := Aside0.mk (Nat.le_trans HS2.out hg3.size)
            have yc3 := blk_cell HY3.out.blk 2
            have yf3 := blk_frozen HY3.out.blk 2
            simp only [List.getElem?_toArray, List.getElem?_cons_zero, List.getElem?_cons_succ] at yc3
            obtain ⟨Av, cv, rfl⟩ := Kd.R_slice HV.out
            have hll := Aside0.mk (show (xs ++ [y]).length = xs.length + 1 from by simp)
            rw [hll.out] at HV
            clear hv1 hb3 hg3 ho3 HG3
            refine hK.out _ _ ?hSp3w1_6 (fun hHeld => ?_)
            case hSp3w1_6 => exact trivial
            clear hK K
            try simp only [Act.put, List.setIfInBounds_toArray, List.set_cons_zero, List.set_cons_succ]
            refine held_take 6 (some 39) (v := ?vp3w1_6) rfl rfl (by kernel_rfl) (by kernel_rfl) (by kernel_rfl) (fun _ _ _ h => h) (by rfl) ?yp3w1_6 (by assumption) ?_
            case yp3w1_6 => ((intro w hSw); (try dsimp only at hSw); go_simp <;> (with_reducible rfl))
            try simp only [Act.put, List.setIfInBounds_toArray, List.set_cons_zero, List.set_cons_succ]
            refine wpAnyH_ready (rs := [7]) (by kernel_rfl) (by simp) ?_
            refine AllReadyH.cons rfl (fun K hK => ?_) AllReadyH.nil
            go_simp
            refine hK.out _ _ ?hSp3w1_8 (fun hHeld => ?_)
            case hSp3w1_8 => exact trivial
            clear hK K
            try simp only [Act.put, List.setIfInBounds_toArray, List.set_cons_zero, List.set_cons_succ]
            refine wpAnyH_done (by kernel_rfl) ?_ _
            go_wp2_with fail
            have HT4 := Aside0.mk (HT3.out.far HY3.out 2 (.slice Av (xs.length + 1) cv))
            have HY4 := Aside0.mk (HY3.out.put 2 (.slice Av (xs.length + 1) cv) rfl #[.int .i64 n1, .int .i64 n2, .slice Av (xs.length + 1) cv, .slice none 0 0, .bool false, .int .i64 0, .int .u32 0, .slice none 0 0, .int .i64 0, .int .i64 0, .int .i64 0] rfl rfl)
            have HF4 := Aside0.mk (HF3.out.far HY3.out NE.out 2 (.slice Av (xs.length + 1) cv))
            have HV4 := Aside0.mk (R_far2 HV.out HB3.out.2.1 2 (.slice Av (xs.length + 1) cv))
            go_roundw
            case rel => exact ⟨j + 1, by go_num, by omega, Av, cv, xs ++ [y], m2, by rw [hll.out]; exact HV4, by rw [hll.out]; exact HY4, HF4, HT4, ⟨by simpa using HS3.out⟩, ⟨by rw [List.length_append, List.length_singleton, hxl.out]⟩, ⟨by rw [List.append_assoc]; exact HE2.out⟩⟩
            case measure => (try rw [hw]); simp only [intOf]; omega
          · go_simp
            go_at_call 35; (with_reducible refine (HC.out wr.drew (HT.out.below (below_drew (Below.refl _ _)))).mono ?_); rintro e w2 ⟨rfl, ht, hk⟩; have HT2 := Aside0.mk ht; have hkd := (Keep2.of (below_drew (Below.refl wr.heap.size wr)) : Keep2 t t wr wr.drew).trans hk; have HR2 := Aside0.mk (R_keep2 HR.out hkd HB3.out.1 HB3.out.1); have HY2 := Aside0.mk (HY.out.keep hkd); have HF2 := Aside0.mk (HF.out.keep hkd); have HS2 := Aside0.mk (Nat.le_trans HS.out hkd.size); have yc2 := blk_cell HY2.out.blk 2; simp only [List.getElem?_toArray, List.getElem?_cons_zero, List.getElem?_cons_succ] at yc2; clear ht hk hkd
            refine hK.out _ _ ?hSp3w2_4 (fun hHeld => ?_)
            case hSp3w2_4 => exact trivial
            clear hK K
            try simp only [Act.put, List.setIfInBounds_toArray, List.set_cons_zero, List.set_cons_succ]
            refine wpAnyH_ready (rs := [1, 4]) (by kernel_rfl) (by simp) ?_
            refine AllReadyH.cons rfl (fun K hK => ?_) (AllReadyH.cons rfl (fun K hK => ?_) AllReadyH.nil)
            · go_simp
              refine hK.out _ _ ?hSp3w3_2 (fun hHeld => ?_)
              case hSp3w3_2 => exact trivial
              clear hK K
              try simp only [Act.put, List.setIfInBounds_toArray, List.set_cons_zero, List.set_cons_succ]
              refine wpAnyH_ready (rs := [4]) (by kernel_rfl) (by simp) ?_
              refine AllReadyH.cons rfl (fun K hK => ?_) AllReadyH.nil
              go_simp
              have yca := blk_cell (HY2.out.below ((Below.refl _ w2).alloc (Nat.le_refl _) (.cells #[.int .i64 y] 3))).blk 2
              simp only [List.getElem?_toArray, List.getElem?_cons_zero, List.getElem?_cons_succ] at yca
              refine hK.out _ _ ?hSp3w3_5 (fun hHeld => ?_)
              case hSp3w3_5 => exact trivial
              clear hK K
              try simp only [Act.put, List.setIfInBounds_toArray, List.set_cons_zero, List.set_cons_succ]
              refine wpAnyH_ready (rs := [5]) (by kernel_rfl) (by simp) ?_
              refine AllReadyH.cons rfl (fun K hK => ?_) AllReadyH.nil
              refine Kd.R_append_step (Kd.int .i64) (w0 := w2) B3 rfl (.tmp 34) (.tmp 37) 40 3 (.int .i64 0) 8 rfl Try.underlying40 info3 rfl (by decide) (by omega) (.slice A xs.length c) xs y [.int .i64 y] (fun _ => True) (fun _ => False) rfl (by first | (go_simp; done) | (go_simp; rfl)) ?_ (fun _ hk => hk.elim) (fun _ _ => trivial) HR2.out (Below.refl _ _) HS2.out ?_ ?_
              · exact rfl
              · have := HK3.out; have := hxl.out; omega
              intro v1 w3 hv1 hb3 hg3 ho3
              have HG3 := R_grownBase HR2.out hg3 HS2.out
              have HV := Aside0.mk hv1
              have HT3 := Aside0.mk (HT2.out.keepB HB3.out.1 HG3)
              have HY3 := Aside0.mk (HY2.out.upto HB3.out.2.1 HG3)
              have HF3 := Aside0.mk (HF2.out.grown HB3.out.2.2 HS2.out HR2.out hg3)
              have HS3 := Aside0.mk (Nat.le_trans HS2.out hg3.size)
              have yc3 := blk_cell HY3.out.blk 2
              have yf3 := blk_frozen HY3.out.blk 2
              simp only [List.getElem?_toArray, List.getElem?_cons_zero, List.getElem?_cons_succ] at yc3
              obtain ⟨Av, cv, rfl⟩ := Kd.R_slice HV.out
              have hll := Aside0.mk (show (xs ++ [y]).length = xs.length + 1 from by simp)
              rw [hll.out] at HV
              clear hv1 hb3 hg3 ho3 HG3
              refine hK.out _ _ ?hSp3w3_6 (fun hHeld => ?_)
              case hSp3w3_6 => exact trivial
              clear hK K
              try simp only [Act.put, List.setIfInBounds_toArray, List.set_cons_zero, List.set_cons_succ]
              refine held_take 6 (some 39) (v := ?vp3w3_6) rfl rfl (by kernel_rfl) (by kernel_rfl) (by kernel_rfl) (fun _ _ _ h => h) (by rfl) ?yp3w3_6 (by assumption) ?_
              case yp3w3_6 => ((intro w hSw); (try dsimp only at hSw); go_simp <;> (with_reducible rfl))
              try simp only [Act.put, List.setIfInBounds_toArray, List.set_cons_zero, List.set_cons_succ]
              refine wpAnyH_ready (rs := [7]) (by kernel_rfl) (by simp) ?_
              refine AllReadyH.cons rfl (fun K hK => ?_) AllReadyH.nil
              go_simp
              refine hK.out _ _ ?hSp3w3_8 (fun hHeld => ?_)
              case hSp3w3_8 => exact trivial
              clear hK K
              try simp only [Act.put, List.setIfInBounds_toArray, List.set_cons_zero, List.set_cons_succ]
              refine wpAnyH_done (by kernel_rfl) ?_ _
              go_wp2_with fail
              have HT4 := Aside0.mk (HT3.out.far HY3.out 2 (.slice Av (xs.length + 1) cv))
              have HY4 := Aside0.mk (HY3.out.put 2 (.slice Av (xs.length + 1) cv) rfl #[.int .i64 n1, .int .i64 n2, .slice Av (xs.length + 1) cv, .slice none 0 0, .bool false, .int .i64 0, .int .u32 0, .slice none 0 0, .int .i64 0, .int .i64 0, .int .i64 0] rfl rfl)
              have HF4 := Aside0.mk (HF3.out.far HY3.out NE.out 2 (.slice Av (xs.length + 1) cv))
              have HV4 := Aside0.mk (R_far2 HV.out HB3.out.2.1 2 (.slice Av (xs.length + 1) cv))
              go_roundw
              case rel => exact ⟨j + 1, by go_num, by omega, Av, cv, xs ++ [y], m2, by rw [hll.out]; exact HV4, by rw [hll.out]; exact HY4, HF4, HT4, ⟨by simpa using HS3.out⟩, ⟨by rw [List.length_append, List.length_singleton, hxl.out]⟩, ⟨by rw [List.append_assoc]; exact HE2.out⟩⟩
              case measure => (try rw [hw]); simp only [intOf]; omega
            · go_simp
              have yca := blk_cell (HY2.out.below ((Below.refl _ w2).alloc (Nat.le_refl _) (.cells #[.int .i64 y] 3))).blk 2
              simp only [List.getElem?_toArray, List.getElem?_cons_zero, List.getElem?_cons_succ] at yca
              refine hK.out _ _ ?hSp3w4_5 (fun hHeld => ?_)
              case hSp3w4_5 => exact trivial
              clear hK K
              try simp only [Act.put, List.setIfInBounds_toArray, List.set_cons_zero, List.set_cons_succ]
              refine wpAnyH_ready (rs := [1]) (by kernel_rfl) (by simp) ?_
              refine AllReadyH.cons rfl (fun K hK => ?_) AllReadyH.nil
              go_simp
              refine hK.out _ _ ?hSp3w4_2 (fun hHeld => ?_)
              case hSp3w4_2 => exact trivial
              clear hK K
              try simp only [Act.put, List.setIfInBounds_toArray, List.set_cons_zero, List.set_cons_succ]
              refine wpAnyH_ready (rs := [5]) (by kernel_rfl) (by simp) ?_
              refine AllReadyH.cons rfl (fun K hK => ?_) AllReadyH.nil
              refine Kd.R_append_step (Kd.int .i64) (w0 := w2) B3 rfl (.tmp 34) (.tmp 37) 40 3 (.int .i64 0) 8 rfl Try.underlying40 info3 rfl (by decide) (by omega) (.slice A xs.length c) xs y [.int .i64 y] (fun _ => True) (fun _ => False) rfl (by first | (go_simp; done) | (go_simp; rfl)) ?_ (fun _ hk => hk.elim) (fun _ _ => trivial) HR2.out (Below.refl _ _) HS2.out ?_ ?_
              · exact rfl
              · have := HK3.out; have := hxl.out; omega
              intro v1 w3 hv1 hb3 hg3 ho3
              have HG3 := R_grownBase HR2.out hg3 HS2.out
              have HV := Aside0.mk hv1
              have HT3 := Aside0.mk (HT2.out.keepB HB3.out.1 HG3)
              have HY3 := Aside0.mk (HY2.out.upto HB3.out.2.1 HG3)
              have HF3 := Aside0.mk (HF2.out.grown HB3.out.2.2 HS2.out HR2.out hg3)
              have HS3 := Aside0.mk (Nat.le_trans HS2.out hg3.size)
              have yc3 := blk_cell HY3.out.blk 2
              have yf3 := blk_frozen HY3.out.blk 2
              simp only [List.getElem?_toArray, List.getElem?_cons_zero, List.getElem?_cons_succ] at yc3
              obtain ⟨Av, cv, rfl⟩ := Kd.R_slice HV.out
              have hll := Aside0.mk (show (xs ++ [y]).length = xs.length + 1 from by simp)
              rw [hll.out] at HV
              clear hv1 hb3 hg3 ho3 HG3
              refine hK.out _ _ ?hSp3w4_6 (fun hHeld => ?_)
              case hSp3w4_6 => exact trivial
              clear hK K
              try simp only [Act.put, List.setIfInBounds_toArray, List.set_cons_zero, List.set_cons_succ]
              refine held_take 6 (some 39) (v := ?vp3w4_6) rfl rfl (by kernel_rfl) (by kernel_rfl) (by kernel_rfl) (fun _ _ _ h => h) (by rfl) ?yp3w4_6 (by assumption) ?_
              case yp3w4_6 => ((intro w hSw); (try dsimp only at hSw); go_simp <;> (with_reducible rfl))
              try simp only [Act.put, List.setIfInBounds_toArray, List.set_cons_zero, List.set_cons_succ]
              refine wpAnyH_ready (rs := [7]) (by kernel_rfl) (by simp) ?_
              refine AllReadyH.cons rfl (fun K hK => ?_) AllReadyH.nil
              go_simp
              refine hK.out _ _ ?hSp3w4_8 (fun hHeld => ?_)
              case hSp3w4_8 => exact trivial
              clear hK K
              try simp only [Act.put, List.setIfInBounds_toArray, List.set_cons_zero, List.set_cons_succ]
              refine wpAnyH_done (by kernel_rfl) ?_ _
              go_wp2_with fail
              have HT4 := Aside0.mk (HT3.out.far HY3.out 2 (.slice Av (xs.length + 1) cv))
              have HY4 := Aside0.mk (HY3.out.put 2 (.slice Av (xs.length + 1) cv) rfl #[.int .i64 n1, .int .i64 n2, .slice Av (xs.length + 1) cv, .slice none 0 0, .bool false, .int .i64 0, .int .u32 0, .slice none 0 0, .int .i64 0, .int .i64 0, .int .i64 0] rfl rfl)
              have HF4 := Aside0.mk (HF3.out.far HY3.out NE.out 2 (.slice Av (xs.length + 1) cv))
              have HV4 := Aside0.mk (R_far2 HV.out HB3.out.2.1 2 (.slice Av (xs.length + 1) cv))
              go_roundw
              case rel => exact ⟨j + 1, by go_num, by omega, Av, cv, xs ++ [y], m2, by rw [hll.out]; exact HV4, by rw [hll.out]; exact HY4, HF4, HT4, ⟨by simpa using HS3.out⟩, ⟨by rw [List.length_append, List.length_singleton, hxl.out]⟩, ⟨by rw [List.append_assoc]; exact HE2.out⟩⟩
              case measure => (try rw [hw]); simp only [intOf]; omega
      · have h1z : ¬ (j : Int) < (k3 : Int) := by omega
        have HE2 := Aside0.mk (show xs = n3 ∧ ⟨rest, bad⟩ = m3 from by
          have h := HE.out
          rw [show k3 - j = 0 from by omega] at h
          simpa [repM] using h)
        clear HE
        go_wp2_with fail
        go_meet
        case rel => exact ⟨A, c, by rw [← HE2.out.1]; exact HR, by rw [← HE2.out.1]; exact HY, HF, by rw [← HE2.out.2]; exact HT, HS⟩
  case rest =>
  obtain ⟨A3, c3, UX, Y6, F6, T6, HS⟩ := hcut
  clear HR0 HBS Y5 F5 T5
  rename_i wc _
  generalize wc = W6 at *
  have U3_6 := Aside0.mk (R_close UX.out)
  have hlo3 := Aside0.mk (show t < B3 ∧ b1 < B3 from ⟨HB3.out.1, HB3.out.2.1⟩)
  have hBs3 := Aside0.mk HB3.out.2.2
  have hBl3 := Aside0.mk (show w.heap.size ≤ B3 from Nat.le_of_lt HB3.out.2.2)
  obtain ⟨H3, hH3⟩ : ∃ H, W6.heap.size = H := ⟨_, rfl⟩
  rw [hH3] at U3_6
  have hhi3_6 := Aside0.mk (show H3 ≤ W6.heap.size from Nat.le_of_eq hH3.symm)
  clear UX HS HB3 hH3
  try dsimp only
  repeat ((fail_if_success (show Code.wp _ (Code.seq (Code.region 8 _ _) _) _ _ _)); (first | go_values | go_skip | go_guarded | go_step | go_upon | go_back))
  go_wp2_with fail
  refine (C4.out t W6 T6.out).mono ?_
  rintro e W7 ⟨rfl, ht, hk⟩
  have F7 := Aside0.mk (F6.out.keep hk)
  have T7 := Aside0.mk ht
  have Y7 := Aside0.mk (Y6.out.keep hk)
  have U3_7 := Aside0.mk (R_frame U3_6.out (keep_range hk hlo3.out.1 hhi3_6.out))
  have hhi3_7 := Aside0.mk (Nat.le_trans hhi3_6.out hk.size)
  clear ht hk C4 T6 F6 Y6 U3_6 hhi3_6
  try dsimp only
  repeat ((fail_if_success (show Code.wp _ (Code.seq (Code.region 9 _ _) _) _ _ _)); (first | go_values | go_skip | go_guarded | go_step | go_upon | go_back))
  have HHB3_4 := Aside0.mk hhi3_7.out
  have HB4 := Aside0.mk (show t < W7.heap.size ∧ b1 < W7.heap.size ∧ w.heap.size < W7.heap.size from ⟨T7.out.lt.1, blk_lt Y7.out.blk, blk_lt F7.out.X.blk⟩)
  have HR0 := Aside0.mk (show Kd.R k29 29 W7 W7.heap.size (fun _ => True) (.slice none 0 0) ([] : List Ru) from Kd.R_nil _ _ _ _ _)
  obtain ⟨B4, hB4⟩ : ∃ B, B = W7.heap.size := ⟨_, rfl⟩
  rw [← hB4] at HB4 HR0 HHB3_4
  have HBS := Aside0.mk (show B4 ≤ W7.heap.size from Nat.le_of_eq hB4)
  clear hB4
  go_cut [8] from 11 (fun _ wr => ∃ (A : Option Addr) (c : Nat), Aside0 (Kd.R k29 29 wr B4 (fun _ => True) (.slice A n4.length c) n4) ∧ Aside0 (Mine w wr t t b1 #[.int .i64 n1, .int .i64 n2, .slice A3 n3.length c3, .slice A n4.length c, .bool false, .int .i64 0, .int .u32 0, .slice none 0 0, .int .i64 0, .int .i64 0, .int .i64 0] 50) ∧ Aside0 (Fr w wr t) ∧ Aside0 (RT wr t m4) ∧ Aside0 (B4 ≤ wr.heap.size) ∧ Aside0 (Kd.R (Kd.int .i64) 3 wr B3 (fun k => B3 ≤ k ∧ k < H3) (.slice A3 n3.length c3) n3))
  case first =>
    go_wp2_with fail
    go_loopw [8] (fun u wr => ∃ (j : Nat), u = .int .i64 j ∧ j ≤ k4 ∧ ∃ (A : Option Addr) (c : Nat) (xs : List Ru) (mm : Mc), Aside0 (Kd.R k29 29 wr B4 (fun _ => True) (.slice A xs.length c) xs) ∧ Aside0 (Mine w wr t t b1 #[.int .i64 n1, .int .i64 n2, .slice A3 n3.length c3, .slice A xs.length c, .bool false, .int .i64 0, .int .u32 0, .slice none 0 0, .int .i64 0, .int .i64 0, .int .i64 0] 50) ∧ Aside0 (Fr w wr t) ∧ Aside0 (RT wr t mm) ∧ Aside0 (B4 ≤ wr.heap.size) ∧ Aside0 (xs.length = j) ∧ Aside0 (xs ++ (repM ruleM (k4 - j) mm).1 = n4 ∧ (repM ruleM (k4 - j) mm).2 = m4) ∧ Aside0 (Kd.R (Kd.int .i64) 3 wr B3 (fun k => B3 ≤ k ∧ k < H3) (.slice A3 n3.length c3) n3)) (fun u _ => k4 - (intOf u).toNat)
    case atStart => exact ⟨0, rfl, Nat.zero_le _, none, 0, [], s4, HR0, Y7, F7, T7, HBS, ⟨rfl⟩, ⟨by rw [Nat.sub_zero, HQ4.out]; exact ⟨rfl, rfl⟩⟩, U3_7⟩
    case round =>
      clear HR0 Y7 F7 T7 HBS HQ4 U3_7
      obtain ⟨j, rfl, hj, A, c, xs, mm, HR, HY, HF, HT, HS, hxl, HE, V3⟩ := hrel
      obtain ⟨rest, bad⟩ := mm
      obtain ⟨Bx, dx, bx, ix, ⟨hx1, hx2, hx3, hx4⟩, hx5, hx6, hx7⟩ := id HT.out
      have bb := blk_cell hx1 2
      simp only [List.getElem?_toArray, List.getElem?_cons_zero, List.getElem?_cons_succ] at bb
      clear hx1 hx2 hx3 hx4 hx5 hx6 hx7
      by_cases h1 : j < k4
      · have h1z : (j : Int) < (k4 : Int) := by omega
        cases bad with
        | true =>
          have HE2 := Aside0.mk (show xs = n4 ∧ ⟨rest, true⟩ = m4 from by
            have h := HE.out
            rw [show k4 - j = (k4 - j - 1) + 1 from by omega] at h
            simpa [repM] using h)
          clear HE
          go_wp2_with fail
          go_meet
          case rel => exact ⟨A, c, by rw [← HE2.out.1]; exact HR, by rw [← HE2.out.1]; exact HY, HF, by rw [← HE2.out.2]; exact HT, HS, V3⟩
        | false =>
          have HC := Aside0.mk (fun (W : World) (k : RT W t ⟨rest, false⟩) => refrule_any t ⟨rest, false⟩ W k)
          have HE2 := Aside0.mk (show xs ++ ((ruleM ⟨rest, false⟩).1 :: (repM ruleM (k4 - (j + 1)) (ruleM ⟨rest, false⟩).2).1) = n4 ∧ (repM ruleM (k4 - (j + 1)) (ruleM ⟨rest, false⟩).2).2 = m4 from by
            have h := HE.out
            rw [show k4 - j = (k4 - (j + 1)) + 1 from by omega] at h
            simpa [repM] using h)
          rcases q : ruleM ⟨rest, false⟩ with ⟨y, m2⟩
          rw [q] at HC HE2
          simp only [] at HC HE2
          have yc := blk_cell HY.out.blk 3
          simp only [List.getElem?_toArray, List.getElem?_cons_zero, List.getElem?_cons_succ] at yc
          have hw := wr1 j (by have := HK4.out; omega)
          try unfold wideW at HC
          try unfold ruleVals at HC
          clear HE q
          go_wp2_with fail
          clear bb
          refine wp_region_held_drew (S := (fun _ => True)) (by kernel_rfl) ?hSp40 (fun hHeld => ?_)
          case hSp40 => exact trivial
          refine held_take 0 (some 54) (v := ?vp40) rfl rfl (by kernel_rfl) (by kernel_rfl) (by kernel_rfl) (fun _ _ _ h => h) (by rfl) ?yp40 (by assumption) ?_
          case yp40 => ((intro w hSw); (try dsimp only at hSw); go_simp <;> (with_reducible rfl))
          try simp only [Act.put, List.setIfInBounds_toArray, List.set_cons_zero, List.set_cons_succ]
          refine held_take 2 (some 56) (v := ?vp42) rfl rfl (by kernel_rfl) (by kernel_rfl) (by kernel_rfl) (fun _ _ _ h => h) (by rfl) ?yp42 (by assumption) ?_
          case yp42 => ((intro w hSw); (try dsimp only at hSw); go_simp <;> (with_reducible rfl))
          try simp only [Act.put, List.setIfInBounds_toArray, List.set_cons_zero, List.set_cons_succ]
          refine wpAnyH_ready (rs := [1, 3]) (by kernel_rfl) (by simp) ?_
          refine AllReadyH.cons rfl (fun K hK => ?_) (AllReadyH.cons rfl (fun K hK => ?_) AllReadyH.nil)
          · go_simp
            refine hK.out _ _ ?hSp4w1_2 (fun hHeld => ?_)
            case hSp4w1_2 => exact trivial
            clear hK K
            try simp only [Act.put, List.setIfInBounds_toArray, List.set_cons_zero, List.set_cons_succ]
            refine wpAnyH_ready (rs := [3]) (by kernel_rfl) (by simp) ?_
            refine AllReadyH.cons rfl (fun K hK => ?_) AllReadyH.nil
            go_simp
            go_at_call 37; (with_reducible refine (HC.out wr.drew (HT.out.below (below_drew (Below.refl _ _)))).mono ?_); rintro e w2 ⟨rfl, ht, hk⟩; have HT2 := Aside0.mk ht; have hkd := (Keep2.of (below_drew (Below.refl wr.heap.size wr)) : Keep2 t t wr wr.drew).trans hk; have HR2 := Aside0.mk (R_keep2 HR.out hkd HB4.out.1 HB4.out.1); have HY2 := Aside0.mk (HY.out.keep hkd); have HF2 := Aside0.mk (HF.out.keep hkd); have HS2 := Aside0.mk (Nat.le_trans HS.out hkd.size); have yc2 := blk_cell HY2.out.blk 3; simp only [List.getElem?_toArray, List.getElem?_cons_zero, List.getElem?_cons_succ] at yc2; have V3b := Aside0.mk (R_frame V3.out (keep_range hkd hlo3.out.1 (Nat.le_trans HHB3_4.out HS.out))); clear ht hk hkd
            refine hK.out _ _ ?hSp4w1_4 (fun hHeld => ?_)
            case hSp4w1_4 => exact trivial
            clear hK K
            try simp only [Act.put, List.setIfInBounds_toArray, List.set_cons_zero, List.set_cons_succ]
            refine wpAnyH_ready (rs := [4]) (by kernel_rfl) (by simp) ?_
            refine AllReadyH.cons rfl (fun K hK => ?_) AllReadyH.nil
            go_simp
            have yca := blk_cell (HY2.out.below ((Below.refl _ w2).alloc (Nat.le_refl _) (.cells #[.int .i64 y.f0, .int .i64 y.f1, .int .i64 y.f2, .int .i64 y.f3, .int .u32 y.f4.f0, .int .u32 y.f4.f1, .int .i64 y.f5] 29))).blk 3
            simp only [List.getElem?_toArray, List.getElem?_cons_zero, List.getElem?_cons_succ] at yca
            refine hK.out _ _ ?hSp4w1_5 (fun hHeld => ?_)
            case hSp4w1_5 => exact trivial
            clear hK K
            try simp only [Act.put, List.setIfInBounds_toArray, List.set_cons_zero, List.set_cons_succ]
            refine wpAnyH_ready (rs := [5]) (by kernel_rfl) (by simp) ?_
            refine AllReadyH.cons rfl (fun K hK => ?_) AllReadyH.nil
            refine Kd.R_append_step k29 (w0 := w2) B4 rfl (.tmp 55) (.tmp 58) 41 29 (.agg #[.int .i64 0, .int .i64 0, .int .i64 0, .int .i64 0, .int .u32 0, .int .u32 0, .int .i64 0]) 48 rfl Try.underlying41 infoRu rfl (by decide) (by omega) (.slice A xs.length c) xs y [.int .i64 y.f0, .int .i64 y.f1, .int .i64 y.f2, .int .i64 y.f3, .int .u32 y.f4.f0, .int .u32 y.f4.f1, .int .i64 y.f5] (fun _ => True) (fun _ => False) rfl (by first | (go_simp; done) | (go_simp; rfl)) ?_ (fun _ hk => hk.elim) (fun _ _ => trivial) HR2.out (Below.refl _ _) HS2.out ?_ ?_
            · exact k29_mkM _ _ _ y
            · have := HK4.out; have := hxl.out; omega
            intro v1 w3 hv1 hb3 hg3 ho3
            have HG3 := R_grownBase HR2.out hg3 HS2.out
            have HV := Aside0.mk hv1
            have HT3 := Aside0.mk (HT2.out.keepB HB4.out.1 HG3)
            have HY3 := Aside0.mk (HY2.out.upto HB4.out.2.1 HG3)
            have HF3 := Aside0.mk (HF2.out.grown HB4.out.2.2 HS2.out HR2.out hg3)
            have HS3 := Aside0.mk (Nat.le_trans HS2.out hg3.size)
            have yc3 := blk_cell HY3.out.blk 3
            have yf3 := blk_frozen HY3.out.blk 3
            simp only [List.getElem?_toArray, List.getElem?_cons_zero, List.getElem?_cons_succ] at yc3
            obtain ⟨Av, cv, rfl⟩ := Kd.R_slice HV.out
            have hll := Aside0.mk (show (xs ++ [y]).length = xs.length + 1 from by simp)
            rw [hll.out] at HV
            have V3c := Aside0.mk (R_frame V3b.out (fun k _ h2 => HG3 k (Nat.lt_of_lt_of_le h2 HHB3_4.out)))
            clear hv1 hb3 hg3 ho3 HG3
            refine hK.out _ _ ?hSp4w1_6 (fun hHeld => ?_)
            case hSp4w1_6 => exact trivial
            clear hK K
            try simp only [Act.put, List.setIfInBounds_toArray, List.set_cons_zero, List.set_cons_succ]
            refine held_take 6 (some 60) (v := ?vp4w1_6) rfl rfl (by kernel_rfl) (by kernel_rfl) (by kernel_rfl) (fun _ _ _ h => h) (by rfl) ?yp4w1_6 (by assumption) ?_
            case yp4w1_6 => ((intro w hSw); (try dsimp only at hSw); go_simp <;> (with_reducible rfl))
            try simp only [Act.put, List.setIfInBounds_toArray, List.set_cons_zero, List.set_cons_succ]
            refine wpAnyH_ready (rs := [7]) (by kernel_rfl) (by simp) ?_
            refine AllReadyH.cons rfl (fun K hK => ?_) AllReadyH.nil
            go_simp
            refine hK.out _ _ ?hSp4w1_8 (fun hHeld => ?_)
            case hSp4w1_8 => exact trivial
            clear hK K
            try simp only [Act.put, List.setIfInBounds_toArray, List.set_cons_zero, List.set_cons_succ]
            refine wpAnyH_done (by kernel_rfl) ?_ _
            go_wp2_with fail
            have HT4 := Aside0.mk (HT3.out.far HY3.out 3 (.slice Av (xs.length + 1) cv))
            have HY4 := Aside0.mk (HY3.out.put 3 (.slice Av (xs.length + 1) cv) rfl #[.int .i64 n1, .int .i64 n2, .slice A3 n3.length c3, .slice Av (xs.length + 1) cv, .bool false, .int .i64 0, .int .u32 0, .slice none 0 0, .int .i64 0, .int .i64 0, .int .i64 0] rfl rfl)
            have HF4 := Aside0.mk (HF3.out.far HY3.out NE.out 3 (.slice Av (xs.length + 1) cv))
            have HV4 := Aside0.mk (R_far2 HV.out HB4.out.2.1 3 (.slice Av (xs.length + 1) cv))
            have V3d := Aside0.mk (R_frame V3c.out (set_range (j := 3) (u := .slice Av (xs.length + 1) cv) hlo3.out.2))
            go_roundw
            case rel => exact ⟨j + 1, by go_num, by omega, Av, cv, xs ++ [y], m2, by rw [hll.out]; exact HV4, by rw [hll.out]; exact HY4, HF4, HT4, ⟨by simpa using HS3.out⟩, ⟨by rw [List.length_append, List.length_singleton, hxl.out]⟩, ⟨by rw [List.append_assoc]; exact HE2.out⟩, V3d⟩
            case measure => (try rw [hw]); simp only [intOf]; omega
          · go_simp
            go_at_call 37; (with_reducible refine (HC.out wr.drew (HT.out.below (below_drew (Below.refl _ _)))).mono ?_); rintro e w2 ⟨rfl, ht, hk⟩; have HT2 := Aside0.mk ht; have hkd := (Keep2.of (below_drew (Below.refl wr.heap.size wr)) : Keep2 t t wr wr.drew).trans hk; have HR2 := Aside0.mk (R_keep2 HR.out hkd HB4.out.1 HB4.out.1); have HY2 := Aside0.mk (HY.out.keep hkd); have HF2 := Aside0.mk (HF.out.keep hkd); have HS2 := Aside0.mk (Nat.le_trans HS.out hkd.size); have yc2 := blk_cell HY2.out.blk 3; simp only [List.getElem?_toArray, List.getElem?_cons_zero, List.getElem?_cons_succ] at yc2; have V3b := Aside0.mk (R_frame V3.out (keep_range hkd hlo3.out.1 (Nat.le_trans HHB3_4.out HS.out))); clear ht hk hkd
            refine hK.out _ _ ?hSp4w2_4 (fun hHeld => ?_)
            case hSp4w2_4 => exact trivial
            clear hK K
            try simp only [Act.put, List.setIfInBounds_toArray, List.set_cons_zero, List.set_cons_succ]
            refine wpAnyH_ready (rs := [1, 4]) (by kernel_rfl) (by simp) ?_
            refine AllReadyH.cons rfl (fun K hK => ?_) (AllReadyH.cons rfl (fun K hK => ?_) AllReadyH.nil)
            · go_simp
              refine hK.out _ _ ?hSp4w3_2 (fun hHeld => ?_)
              case hSp4w3_2 => exact trivial
              clear hK K
              try simp only [Act.put, List.setIfInBounds_toArray, List.set_cons_zero, List.set_cons_succ]
              refine wpAnyH_ready (rs := [4]) (by kernel_rfl) (by simp) ?_
              refine AllReadyH.cons rfl (fun K hK => ?_) AllReadyH.nil
              go_simp
              have yca := blk_cell (HY2.out.below ((Below.refl _ w2).alloc (Nat.le_refl _) (.cells #[.int .i64 y.f0, .int .i64 y.f1, .int .i64 y.f2, .int .i64 y.f3, .int .u32 y.f4.f0, .int .u32 y.f4.f1, .int .i64 y.f5] 29))).blk 3
              simp only [List.getElem?_toArray, List.getElem?_cons_zero, List.getElem?_cons_succ] at yca
              refine hK.out _ _ ?hSp4w3_5 (fun hHeld => ?_)
              case hSp4w3_5 => exact trivial
              clear hK K
              try simp only [Act.put, List.setIfInBounds_toArray, List.set_cons_zero, List.set_cons_succ]
              refine wpAnyH_ready (rs := [5]) (by kernel_rfl) (by simp) ?_
              refine AllReadyH.cons rfl (fun K hK => ?_) AllReadyH.nil
              refine Kd.R_append_step k29 (w0 := w2) B4 rfl (.tmp 55) (.tmp 58) 41 29 (.agg #[.int .i64 0, .int .i64 0, .int .i64 0, .int .i64 0, .int .u32 0, .int .u32 0, .int .i64 0]) 48 rfl Try.underlying41 infoRu rfl (by decide) (by omega) (.slice A xs.length c) xs y [.int .i64 y.f0, .int .i64 y.f1, .int .i64 y.f2, .int .i64 y.f3, .int .u32 y.f4.f0, .int .u32 y.f4.f1, .int .i64 y.f5] (fun _ => True) (fun _ => False) rfl (by first | (go_simp; done) | (go_simp; rfl)) ?_ (fun _ hk => hk.elim) (fun _ _ => trivial) HR2.out (Below.refl _ _) HS2.out ?_ ?_
              · exact k29_mkM _ _ _ y
              · have := HK4.out; have := hxl.out; omega
              intro v1 w3 hv1 hb3 hg3 ho3
              have HG3 := R_grownBase HR2.out hg3 HS2.out
              have HV := Aside0.mk hv1
              have HT3 := Aside0.mk (HT2.out.keepB HB4.out.1 HG3)
              have HY3 := Aside0.mk (HY2.out.upto HB4.out.2.1 HG3)
              have HF3 := Aside0.mk (HF2.out.grown HB4.out.2.2 HS2.out HR2.out hg3)
              have HS3 := Aside0.mk (Nat.le_trans HS2.out hg3.size)
              have yc3 := blk_cell HY3.out.blk 3
              have yf3 := blk_frozen HY3.out.blk 3
              simp only [List.getElem?_toArray, List.getElem?_cons_zero, List.getElem?_cons_succ] at yc3
              obtain ⟨Av, cv, rfl⟩ := Kd.R_slice HV.out
              have hll := Aside0.mk (show (xs ++ [y]).length = xs.length + 1 from by simp)
              rw [hll.out] at HV
              have V3c := Aside0.mk (R_frame V3b.out (fun k _ h2 => HG3 k (Nat.lt_of_lt_of_le h2 HHB3_4.out)))
              clear hv1 hb3 hg3 ho3 HG3
              refine hK.out _ _ ?hSp4w3_6 (fun hHeld => ?_)
              case hSp4w3_6 => exact trivial
              clear hK K
              try simp only [Act.put, List.setIfInBounds_toArray, List.set_cons_zero, List.set_cons_succ]
              refine held_take 6 (some 60) (v := ?vp4w3_6) rfl rfl (by kernel_rfl) (by kernel_rfl) (by kernel_rfl) (fun _ _ _ h => h) (by rfl) ?yp4w3_6 (by assumption) ?_
              case yp4w3_6 => ((intro w hSw); (try dsimp only at hSw); go_simp <;> (with_reducible rfl))
              try simp only [Act.put, List.setIfInBounds_toArray, List.set_cons_zero, List.set_cons_succ]
              refine wpAnyH_ready (rs := [7]) (by kernel_rfl) (by simp) ?_
              refine AllReadyH.cons rfl (fun K hK => ?_) AllReadyH.nil
              go_simp
              refine hK.out _ _ ?hSp4w3_8 (fun hHeld => ?_)
              case hSp4w3_8 => exact trivial
              clear hK K
              try simp only [Act.put, List.setIfInBounds_toArray, List.set_cons_zero, List.set_cons_succ]
              refine wpAnyH_done (by kernel_rfl) ?_ _
              go_wp2_with fail
              have HT4 := Aside0.mk (HT3.out.far HY3.out 3 (.slice Av (xs.length + 1) cv))
              have HY4 := Aside0.mk (HY3.out.put 3 (.slice Av (xs.length + 1) cv) rfl #[.int .i64 n1, .int .i64 n2, .slice A3 n3.length c3, .slice Av (xs.length + 1) cv, .bool false, .int .i64 0, .int .u32 0, .slice none 0 0, .int .i64 0, .int .i64 0, .int .i64 0] rfl rfl)
              have HF4 := Aside0.mk (HF3.out.far HY3.out NE.out 3 (.slice Av (xs.length + 1) cv))
              have HV4 := Aside0.mk (R_far2 HV.out HB4.out.2.1 3 (.slice Av (xs.length + 1) cv))
              have V3d := Aside0.mk (R_frame V3c.out (set_range (j := 3) (u := .slice Av (xs.length + 1) cv) hlo3.out.2))
              go_roundw
              case rel => exact ⟨j + 1, by go_num, by omega, Av, cv, xs ++ [y], m2, by rw [hll.out]; exact HV4, by rw [hll.out]; exact HY4, HF4, HT4, ⟨by simpa using HS3.out⟩, ⟨by rw [List.length_append, List.length_singleton, hxl.out]⟩, ⟨by rw [List.append_assoc]; exact HE2.out⟩, V3d⟩
              case measure => (try rw [hw]); simp only [intOf]; omega
            · go_simp
              have yca := blk_cell (HY2.out.below ((Below.refl _ w2).alloc (Nat.le_refl _) (.cells #[.int .i64 y.f0, .int .i64 y.f1, .int .i64 y.f2, .int .i64 y.f3, .int .u32 y.f4.f0, .int .u32 y.f4.f1, .int .i64 y.f5] 29))).blk 3
              simp only [List.getElem?_toArray, List.getElem?_cons_zero, List.getElem?_cons_succ] at yca
              refine hK.out _ _ ?hSp4w4_5 (fun hHeld => ?_)
              case hSp4w4_5 => exact trivial
              clear hK K
              try simp only [Act.put, List.setIfInBounds_toArray, List.set_cons_zero, List.set_cons_succ]
              refine wpAnyH_ready (rs := [1]) (by kernel_rfl) (by simp) ?_
              refine AllReadyH.cons rfl (fun K hK => ?_) AllReadyH.nil
              go_simp
              refine hK.out _ _ ?hSp4w4_2 (fun hHeld => ?_)
              case hSp4w4_2 => exact trivial
              clear hK K
              try simp only [Act.put, List.setIfInBounds_toArray, List.set_cons_zero, List.set_cons_succ]
              refine wpAnyH_ready (rs := [5]) (by kernel_rfl) (by simp) ?_
              refine AllReadyH.cons rfl (fun K hK => ?_) AllReadyH.nil
              refine Kd.R_append_step k29 (w0 := w2) B4 rfl (.tmp 55) (.tmp 58) 41 29 (.agg #[.int .i64 0, .int .i64 0, .int .i64 0, .int .i64 0, .int .u32 0, .int .u32 0, .int .i64 0]) 48 rfl Try.underlying41 infoRu rfl (by decide) (by omega) (.slice A xs.length c) xs y [.int .i64 y.f0, .int .i64 y.f1, .int .i64 y.f2, .int .i64 y.f3, .int .u32 y.f4.f0, .int .u32 y.f4.f1, .int .i64 y.f5] (fun _ => True) (fun _ => False) rfl (by first | (go_simp; done) | (go_simp; rfl)) ?_ (fun _ hk => hk.elim) (fun _ _ => trivial) HR2.out (Below.refl _ _) HS2.out ?_ ?_
              · exact k29_mkM _ _ _ y
              · have := HK4.out; have := hxl.out; omega
              intro v1 w3 hv1 hb3 hg3 ho3
              have HG3 := R_grownBase HR2.out hg3 HS2.out
              have HV := Aside0.mk hv1
              have HT3 := Aside0.mk (HT2.out.keepB HB4.out.1 HG3)
              have HY3 := Aside0.mk (HY2.out.upto HB4.out.2.1 HG3)
              have HF3 := Aside0.mk (HF2.out.grown HB4.out.2.2 HS2.out HR2.out hg3)
              have HS3 := Aside0.mk (Nat.le_trans HS2.out hg3.size)
              have yc3 := blk_cell HY3.out.blk 3
              have yf3 := blk_frozen HY3.out.blk 3
              simp only [List.getElem?_toArray, List.getElem?_cons_zero, List.getElem?_cons_succ] at yc3
              obtain ⟨Av, cv, rfl⟩ := Kd.R_slice HV.out
              have hll := Aside0.mk (show (xs ++ [y]).length = xs.length + 1 from by simp)
              rw [hll.out] at HV
              have V3c := Aside0.mk (R_frame V3b.out (fun k _ h2 => HG3 k (Nat.lt_of_lt_of_le h2 HHB3_4.out)))
              clear hv1 hb3 hg3 ho3 HG3
              refine hK.out _ _ ?hSp4w4_6 (fun hHeld => ?_)
              case hSp4w4_6 => exact trivial
              clear hK K
              try simp only [Act.put, List.setIfInBounds_toArray, List.set_cons_zero, List.set_cons_succ]
              refine held_take 6 (some 60) (v := ?vp4w4_6) rfl rfl (by kernel_rfl) (by kernel_rfl) (by kernel_rfl) (fun _ _ _ h => h) (by rfl) ?yp4w4_6 (by assumption) ?_
              case yp4w4_6 => ((intro w hSw); (try dsimp only at hSw); go_simp <;> (with_reducible rfl))
              try simp only [Act.put, List.setIfInBounds_toArray, List.set_cons_zero, List.set_cons_succ]
              refine wpAnyH_ready (rs := [7]) (by kernel_rfl) (by simp) ?_
              refine AllReadyH.cons rfl (fun K hK => ?_) AllReadyH.nil
              go_simp
              refine hK.out _ _ ?hSp4w4_8 (fun hHeld => ?_)
              case hSp4w4_8 => exact trivial
              clear hK K
              try simp only [Act.put, List.setIfInBounds_toArray, List.set_cons_zero, List.set_cons_succ]
              refine wpAnyH_done (by kernel_rfl) ?_ _
              go_wp2_with fail
              have HT4 := Aside0.mk (HT3.out.far HY3.out 3 (.slice Av (xs.length + 1) cv))
              have HY4 := Aside0.mk (HY3.out.put 3 (.slice Av (xs.length + 1) cv) rfl #[.int .i64 n1, .int .i64 n2, .slice A3 n3.length c3, .slice Av (xs.length + 1) cv, .bool false, .int .i64 0, .int .u32 0, .slice none 0 0, .int .i64 0, .int .i64 0, .int .i64 0] rfl rfl)
              have HF4 := Aside0.mk (HF3.out.far HY3.out NE.out 3 (.slice Av (xs.length + 1) cv))
              have HV4 := Aside0.mk (R_far2 HV.out HB4.out.2.1 3 (.slice Av (xs.length + 1) cv))
              have V3d := Aside0.mk (R_frame V3c.out (set_range (j := 3) (u := .slice Av (xs.length + 1) cv) hlo3.out.2))
              go_roundw
              case rel => exact ⟨j + 1, by go_num, by omega, Av, cv, xs ++ [y], m2, by rw [hll.out]; exact HV4, by rw [hll.out]; exact HY4, HF4, HT4, ⟨by simpa using HS3.out⟩, ⟨by rw [List.length_append, List.length_singleton, hxl.out]⟩, ⟨by rw [List.append_assoc]; exact HE2.out⟩, V3d⟩
              case measure => (try rw [hw]); simp only [intOf]; omega
      · have h1z : ¬ (j : Int) < (k4 : Int) := by omega
        have HE2 := Aside0.mk (show xs = n4 ∧ ⟨rest, bad⟩ = m4 from by
          have h := HE.out
          rw [show k4 - j = 0 from by omega] at h
          simpa [repM] using h)
        clear HE
        go_wp2_with fail
        go_meet
        case rel => exact ⟨A, c, by rw [← HE2.out.1]; exact HR, by rw [← HE2.out.1]; exact HY, HF, by rw [← HE2.out.2]; exact HT, HS, V3⟩
  case rest =>
  obtain ⟨A4, c4, UX, Y8, F8, T8, HS, U3_8⟩ := hcut
  clear HR0 HBS Y7 F7 T7 U3_7
  rename_i wc _
  generalize wc = W8 at *
  have U4_8 := Aside0.mk (R_close UX.out)
  have hlo4 := Aside0.mk (show t < B4 ∧ b1 < B4 from ⟨HB4.out.1, HB4.out.2.1⟩)
  have hBs4 := Aside0.mk HB4.out.2.2
  have hBl4 := Aside0.mk (show w.heap.size ≤ B4 from Nat.le_of_lt HB4.out.2.2)
  obtain ⟨H4, hH4⟩ : ∃ H, W8.heap.size = H := ⟨_, rfl⟩
  rw [hH4] at U4_8
  have hhi4_8 := Aside0.mk (show H4 ≤ W8.heap.size from Nat.le_of_eq hH4.symm)
  have hhi3_8 := Aside0.mk (show H3 ≤ W8.heap.size from Nat.le_trans HHB3_4.out HS.out)
  clear hhi3_7
  clear UX HS HB4 hH4
  try dsimp only
  repeat ((fail_if_success (show Code.wp _ (Code.seq (Code.region 13 _ _) _) _ _ _)); (first | go_values | go_skip | go_guarded | go_step | go_upon | go_back))
  go_wp2_with fail
  refine (C5.out t W8 T8.out).mono ?_
  rintro e W9 ⟨rfl, ht, hk⟩
  have F9 := Aside0.mk (F8.out.keep hk)
  have T9 := Aside0.mk ht
  have Y9 := Aside0.mk (Y8.out.keep hk)
  have U3_9 := Aside0.mk (R_frame U3_8.out (keep_range hk hlo3.out.1 hhi3_8.out))
  have hhi3_9 := Aside0.mk (Nat.le_trans hhi3_8.out hk.size)
  have U4_9 := Aside0.mk (R_frame U4_8.out (keep_range hk hlo4.out.1 hhi4_8.out))
  have hhi4_9 := Aside0.mk (Nat.le_trans hhi4_8.out hk.size)
  clear ht hk C5 T8 F8 Y8 U3_8 hhi3_8 U4_8 hhi4_8
  have f9 := blk_frozen Y9.out.blk 4
  have g9 := blk_cell Y9.out.blk 4
  simp only [List.getElem?_toArray, List.getElem?_cons_zero, List.getElem?_cons_succ] at g9
  try dsimp only
  repeat ((fail_if_success (show Code.wp _ (Code.seq (Code.region 14 _ _) _) _ _ _)); (first | go_values | go_skip | go_guarded | go_step | go_upon | go_back))
  have F10 := Aside0.mk (F9.out.far Y9.out NE.out 4 (.bool h5))
  have T10 := Aside0.mk (T9.out.far Y9.out 4 (.bool h5))
  have Y10 := Aside0.mk (Y9.out.put 4 (.bool h5) rfl #[.int .i64 n1, .int .i64 n2, .slice A3 n3.length c3, .slice A4 n4.length c4, .bool h5, .int .i64 0, .int .u32 0, .slice none 0 0, .int .i64 0, .int .i64 0, .int .i64 0] rfl rfl)
  have U3_10 := Aside0.mk (R_frame U3_9.out (set_range (j := 4) (u := .bool h5) hlo3.out.2))
  have hhi3_10 := Aside0.mk (show H3 ≤ (W9.setCell ⟨b1, 4, none⟩ (.bool h5)).heap.size from by simpa using hhi3_9.out)
  have U4_10 := Aside0.mk (R_frame U4_9.out (set_range (j := 4) (u := .bool h5) hlo4.out.2))
  have hhi4_10 := Aside0.mk (show H4 ≤ (W9.setCell ⟨b1, 4, none⟩ (.bool h5)).heap.size from by simpa using hhi4_9.out)
  clear T9 F9 Y9 f9 g9 U3_9 hhi3_9 U4_9 hhi4_9
  generalize W9.setCell ⟨b1, 4, none⟩ (.bool h5) = W10 at *
  go_wp2_with fail
  refine (C6.out t W10 T10.out).mono ?_
  rintro e W11 ⟨rfl, ht, hk⟩
  have F11 := Aside0.mk (F10.out.keep hk)
  have T11 := Aside0.mk ht
  have Y11 := Aside0.mk (Y10.out.keep hk)
  have U3_11 := Aside0.mk (R_frame U3_10.out (keep_range hk hlo3.out.1 hhi3_10.out))
  have hhi3_11 := Aside0.mk (Nat.le_trans hhi3_10.out hk.size)
  have U4_11 := Aside0.mk (R_frame U4_10.out (keep_range hk hlo4.out.1 hhi4_10.out))
  have hhi4_11 := Aside0.mk (Nat.le_trans hhi4_10.out hk.size)
  clear ht hk C6 T10 F10 Y10 U3_10 hhi3_10 U4_10 hhi4_10
  have f11 := blk_frozen Y11.out.blk 5
  have g11 := blk_cell Y11.out.blk 5
  simp only [List.getElem?_toArray, List.getElem?_cons_zero, List.getElem?_cons_succ] at g11
  try dsimp only
  repeat ((fail_if_success (show Code.wp _ (Code.seq (Code.region 15 _ _) _) _ _ _)); (first | go_values | go_skip | go_guarded | go_step | go_upon | go_back))
  have F12 := Aside0.mk (F11.out.far Y11.out NE.out 5 (.int .i64 n6))
  have T12 := Aside0.mk (T11.out.far Y11.out 5 (.int .i64 n6))
  have Y12 := Aside0.mk (Y11.out.put 5 (.int .i64 n6) rfl #[.int .i64 n1, .int .i64 n2, .slice A3 n3.length c3, .slice A4 n4.length c4, .bool h5, .int .i64 n6, .int .u32 0, .slice none 0 0, .int .i64 0, .int .i64 0, .int .i64 0] rfl rfl)
  have U3_12 := Aside0.mk (R_frame U3_11.out (set_range (j := 5) (u := .int .i64 n6) hlo3.out.2))
  have hhi3_12 := Aside0.mk (show H3 ≤ (W11.setCell ⟨b1, 5, none⟩ (.int .i64 n6)).heap.size from by simpa using hhi3_11.out)
  have U4_12 := Aside0.mk (R_frame U4_11.out (set_range (j := 5) (u := .int .i64 n6) hlo4.out.2))
  have hhi4_12 := Aside0.mk (show H4 ≤ (W11.setCell ⟨b1, 5, none⟩ (.int .i64 n6)).heap.size from by simpa using hhi4_11.out)
  clear T11 F11 Y11 f11 g11 U3_11 hhi3_11 U4_11 hhi4_11
  generalize W11.setCell ⟨b1, 5, none⟩ (.int .i64 n6) = W12 at *
  go_wp2_with fail
  refine (C7.out t W12 T12.out).mono ?_
  rintro e W13 ⟨rfl, ht, hk⟩
  have F13 := Aside0.mk (F12.out.keep hk)
  have T13 := Aside0.mk ht
  have Y13 := Aside0.mk (Y12.out.keep hk)
  have U3_13 := Aside0.mk (R_frame U3_12.out (keep_range hk hlo3.out.1 hhi3_12.out))
  have hhi3_13 := Aside0.mk (Nat.le_trans hhi3_12.out hk.size)
  have U4_13 := Aside0.mk (R_frame U4_12.out (keep_range hk hlo4.out.1 hhi4_12.out))
  have hhi4_13 := Aside0.mk (Nat.le_trans hhi4_12.out hk.size)
  clear ht hk C7 T12 F12 Y12 U3_12 hhi3_12 U4_12 hhi4_12
  have f13 := blk_frozen Y13.out.blk 6
  have g13 := blk_cell Y13.out.blk 6
  simp only [List.getElem?_toArray, List.getElem?_cons_zero, List.getElem?_cons_succ] at g13
  try dsimp only
  repeat ((fail_if_success (show Code.wp _ (Code.seq (Code.region 16 _ _) _) _ _ _)); (first | go_values | go_skip | go_guarded | go_step | go_upon | go_back))
  have F14 := Aside0.mk (F13.out.far Y13.out NE.out 6 (.int .u32 n7))
  have T14 := Aside0.mk (T13.out.far Y13.out 6 (.int .u32 n7))
  have Y14 := Aside0.mk (Y13.out.put 6 (.int .u32 n7) rfl #[.int .i64 n1, .int .i64 n2, .slice A3 n3.length c3, .slice A4 n4.length c4, .bool h5, .int .i64 n6, .int .u32 n7, .slice none 0 0, .int .i64 0, .int .i64 0, .int .i64 0] rfl rfl)
  have U3_14 := Aside0.mk (R_frame U3_13.out (set_range (j := 6) (u := .int .u32 n7) hlo3.out.2))
  have hhi3_14 := Aside0.mk (show H3 ≤ (W13.setCell ⟨b1, 6, none⟩ (.int .u32 n7)).heap.size from by simpa using hhi3_13.out)
  have U4_14 := Aside0.mk (R_frame U4_13.out (set_range (j := 6) (u := .int .u32 n7) hlo4.out.2))
  have hhi4_14 := Aside0.mk (show H4 ≤ (W13.setCell ⟨b1, 6, none⟩ (.int .u32 n7)).heap.size from by simpa using hhi4_13.out)
  clear T13 F13 Y13 f13 g13 U3_13 hhi3_13 U4_13 hhi4_13
  generalize W13.setCell ⟨b1, 6, none⟩ (.int .u32 n7) = W14 at *
  go_wp2_with fail
  refine (C8.out t W14 T14.out).mono ?_
  rintro e W15 ⟨rfl, ht, hk⟩
  have F15 := Aside0.mk (F14.out.keep hk)
  have T15 := Aside0.mk ht
  have Y15 := Aside0.mk (Y14.out.keep hk)
  have U3_15 := Aside0.mk (R_frame U3_14.out (keep_range hk hlo3.out.1 hhi3_14.out))
  have hhi3_15 := Aside0.mk (Nat.le_trans hhi3_14.out hk.size)
  have U4_15 := Aside0.mk (R_frame U4_14.out (keep_range hk hlo4.out.1 hhi4_14.out))
  have hhi4_15 := Aside0.mk (Nat.le_trans hhi4_14.out hk.size)
  clear ht hk C8 T14 F14 Y14 U3_14 hhi3_14 U4_14 hhi4_14
  try dsimp only
  repeat ((fail_if_success (show Code.wp _ (Code.seq (Code.region 17 _ _) _) _ _ _)); (first | go_values | go_skip | go_guarded | go_step | go_upon | go_back))
  have HHB3_8 := Aside0.mk hhi3_15.out
  have HHB4_8 := Aside0.mk hhi4_15.out
  have HB8 := Aside0.mk (show t < W15.heap.size ∧ b1 < W15.heap.size ∧ w.heap.size < W15.heap.size from ⟨T15.out.lt.1, blk_lt Y15.out.blk, blk_lt F15.out.X.blk⟩)
  have HR0 := Aside0.mk (show Kd.R (Kd.int .i64) 3 W15 W15.heap.size (fun _ => True) (.slice none 0 0) ([] : List Int) from Kd.R_nil _ _ _ _ _)
  obtain ⟨B8, hB8⟩ : ∃ B, B = W15.heap.size := ⟨_, rfl⟩
  rw [← hB8] at HB8 HR0 HHB3_8 HHB4_8
  have HBS := Aside0.mk (show B8 ≤ W15.heap.size from Nat.le_of_eq hB8)
  clear hB8
  go_cut [9] from 11 (fun _ wr => ∃ (A : Option Addr) (c : Nat), Aside0 (Kd.R (Kd.int .i64) 3 wr B8 (fun _ => True) (.slice A n8.length c) n8) ∧ Aside0 (Mine w wr t t b1 #[.int .i64 n1, .int .i64 n2, .slice A3 n3.length c3, .slice A4 n4.length c4, .bool h5, .int .i64 n6, .int .u32 n7, .slice A n8.length c, .int .i64 0, .int .i64 0, .int .i64 0] 50) ∧ Aside0 (Fr w wr t) ∧ Aside0 (RT wr t m8) ∧ Aside0 (B8 ≤ wr.heap.size) ∧ Aside0 (Kd.R (Kd.int .i64) 3 wr B3 (fun k => B3 ≤ k ∧ k < H3) (.slice A3 n3.length c3) n3) ∧ Aside0 (Kd.R k29 29 wr B4 (fun k => B4 ≤ k ∧ k < H4) (.slice A4 n4.length c4) n4))
  case first =>
    go_wp2_with fail
    go_loopw [9] (fun u wr => ∃ (j : Nat), u = .int .i64 j ∧ j ≤ k8 ∧ ∃ (A : Option Addr) (c : Nat) (xs : List Int) (mm : Mc), Aside0 (Kd.R (Kd.int .i64) 3 wr B8 (fun _ => True) (.slice A xs.length c) xs) ∧ Aside0 (Mine w wr t t b1 #[.int .i64 n1, .int .i64 n2, .slice A3 n3.length c3, .slice A4 n4.length c4, .bool h5, .int .i64 n6, .int .u32 n7, .slice A xs.length c, .int .i64 0, .int .i64 0, .int .i64 0] 50) ∧ Aside0 (Fr w wr t) ∧ Aside0 (RT wr t mm) ∧ Aside0 (B8 ≤ wr.heap.size) ∧ Aside0 (xs.length = j) ∧ Aside0 (xs ++ (repM (numM 255) (k8 - j) mm).1 = n8 ∧ (repM (numM 255) (k8 - j) mm).2 = m8) ∧ Aside0 (Kd.R (Kd.int .i64) 3 wr B3 (fun k => B3 ≤ k ∧ k < H3) (.slice A3 n3.length c3) n3) ∧ Aside0 (Kd.R k29 29 wr B4 (fun k => B4 ≤ k ∧ k < H4) (.slice A4 n4.length c4) n4)) (fun u _ => k8 - (intOf u).toNat)
    case atStart => exact ⟨0, rfl, Nat.zero_le _, none, 0, [], s8, HR0, Y15, F15, T15, HBS, ⟨rfl⟩, ⟨by rw [Nat.sub_zero, HQ8.out]; exact ⟨rfl, rfl⟩⟩, U3_15, U4_15⟩
    case round =>
      clear HR0 Y15 F15 T15 HBS HQ8 U3_15 U4_15
      obtain ⟨j, rfl, hj, A, c, xs, mm, HR, HY, HF, HT, HS, hxl, HE, V3, V4⟩ := hrel
      obtain ⟨rest, bad⟩ := mm
      obtain ⟨Bx, dx, bx, ix, ⟨hx1, hx2, hx3, hx4⟩, hx5, hx6, hx7⟩ := id HT.out
      have bb := blk_cell hx1 2
      simp only [List.getElem?_toArray, List.getElem?_cons_zero, List.getElem?_cons_succ] at bb
      clear hx1 hx2 hx3 hx4 hx5 hx6 hx7
      by_cases h1 : j < k8
      · have h1z : (j : Int) < (k8 : Int) := by omega
        cases bad with
        | true =>
          have HE2 := Aside0.mk (show xs = n8 ∧ ⟨rest, true⟩ = m8 from by
            have h := HE.out
            rw [show k8 - j = (k8 - j - 1) + 1 from by omega] at h
            simpa [repM] using h)
          clear HE
          go_wp2_with fail
          go_meet
          case rel => exact ⟨A, c, by rw [← HE2.out.1]; exact HR, by rw [← HE2.out.1]; exact HY, HF, by rw [← HE2.out.2]; exact HT, HS, V3, V4⟩
        | false =>
          have HC := Aside0.mk (fun (W : World) (k : RT W t ⟨rest, false⟩) => refN_any t ⟨rest, false⟩ 255 (by decide) (by decide) W k)
          have HE2 := Aside0.mk (show xs ++ (((numM 255) ⟨rest, false⟩).1 :: (repM (numM 255) (k8 - (j + 1)) ((numM 255) ⟨rest, false⟩).2).1) = n8 ∧ (repM (numM 255) (k8 - (j + 1)) ((numM 255) ⟨rest, false⟩).2).2 = m8 from by
            have h := HE.out
            rw [show k8 - j = (k8 - (j + 1)) + 1 from by omega] at h
            simpa [repM] using h)
          rcases q : (numM 255) ⟨rest, false⟩ with ⟨y, m2⟩
          rw [q] at HC HE2
          simp only [] at HC HE2
          have yc := blk_cell HY.out.blk 7
          simp only [List.getElem?_toArray, List.getElem?_cons_zero, List.getElem?_cons_succ] at yc
          have hw := wr1 j (by have := HK8.out; omega)
          try unfold wideW at HC
          try unfold ruleVals at HC
          clear HE q
          go_wp2_with fail
          clear bb
          refine wp_region_held_drew (S := (fun _ => True)) (by kernel_rfl) ?hSp80 (fun hHeld => ?_)
          case hSp80 => exact trivial
          refine held_take 0 (some 89) (v := ?vp80) rfl rfl (by kernel_rfl) (by kernel_rfl) (by kernel_rfl) (fun _ _ _ h => h) (by rfl) ?yp80 (by assumption) ?_
          case yp80 => ((intro w hSw); (try dsimp only at hSw); go_simp <;> (with_reducible rfl))
          try simp only [Act.put, List.setIfInBounds_toArray, List.set_cons_zero, List.set_cons_succ]
          refine held_take 1 (some 90) (v := ?vp81) rfl rfl (by kernel_rfl) (by kernel_rfl) (by kernel_rfl) (fun _ _ _ h => h) (by rfl) ?yp81 (by assumption) ?_
          case yp81 => ((intro w hSw); (try dsimp only at hSw); go_simp <;> (with_reducible rfl))
          try simp only [Act.put, List.setIfInBounds_toArray, List.set_cons_zero, List.set_cons_succ]
          refine held_take 2 (some 91) (v := ?vp82) rfl rfl (by kernel_rfl) (by kernel_rfl) (by kernel_rfl) (fun _ _ _ h => h) (by rfl) ?yp82 (by assumption) ?_
          case yp82 => ((intro w hSw); (try dsimp only at hSw); go_simp <;> (with_reducible rfl))
          try simp only [Act.put, List.setIfInBounds_toArray, List.set_cons_zero, List.set_cons_succ]
          refine held_take 4 (some 93) (v := ?vp84) rfl rfl (by kernel_rfl) (by kernel_rfl) (by kernel_rfl) (fun _ _ _ h => h) (by rfl) ?yp84 (by assumption) ?_
          case yp84 => ((intro w hSw); (try dsimp only at hSw); go_simp <;> (with_reducible rfl))
          try simp only [Act.put, List.setIfInBounds_toArray, List.set_cons_zero, List.set_cons_succ]
          refine wpAnyH_ready (rs := [3, 5]) (by kernel_rfl) (by simp) ?_
          refine AllReadyH.cons rfl (fun K hK => ?_) (AllReadyH.cons rfl (fun K hK => ?_) AllReadyH.nil)
          · go_simp
            refine hK.out _ _ ?hSp8w1_4 (fun hHeld => ?_)
            case hSp8w1_4 => exact trivial
            clear hK K
            try simp only [Act.put, List.setIfInBounds_toArray, List.set_cons_zero, List.set_cons_succ]
            refine wpAnyH_ready (rs := [5]) (by kernel_rfl) (by simp) ?_
            refine AllReadyH.cons rfl (fun K hK => ?_) AllReadyH.nil
            go_simp
            go_at_call 35; (with_reducible refine (HC.out wr.drew (HT.out.below (below_drew (Below.refl _ _)))).mono ?_); rintro e w2 ⟨rfl, ht, hk⟩; have HT2 := Aside0.mk ht; have hkd := (Keep2.of (below_drew (Below.refl wr.heap.size wr)) : Keep2 t t wr wr.drew).trans hk; have HR2 := Aside0.mk (R_keep2 HR.out hkd HB8.out.1 HB8.out.1); have HY2 := Aside0.mk (HY.out.keep hkd); have HF2 := Aside0.mk (HF.out.keep hkd); have HS2 := Aside0.mk (Nat.le_trans HS.out hkd.size); have yc2 := blk_cell HY2.out.blk 7; simp only [List.getElem?_toArray, List.getElem?_cons_zero, List.getElem?_cons_succ] at yc2; have V3b := Aside0.mk (R_frame V3.out (keep_range hkd hlo3.out.1 (Nat.le_trans HHB3_8.out HS.out))); have V4b := Aside0.mk (R_frame V4.out (keep_range hkd hlo4.out.1 (Nat.le_trans HHB4_8.out HS.out))); clear ht hk hkd
            refine hK.out _ _ ?hSp8w1_6 (fun hHeld => ?_)
            case hSp8w1_6 => exact trivial
            clear hK K
            try simp only [Act.put, List.setIfInBounds_toArray, List.set_cons_zero, List.set_cons_succ]
            refine wpAnyH_ready (rs := [6]) (by kernel_rfl) (by simp) ?_
            refine AllReadyH.cons rfl (fun K hK => ?_) AllReadyH.nil
            go_simp
            have yca := blk_cell (HY2.out.below ((Below.refl _ w2).alloc (Nat.le_refl _) (.cells #[.int .i64 y] 3))).blk 7
            simp only [List.getElem?_toArray, List.getElem?_cons_zero, List.getElem?_cons_succ] at yca
            refine hK.out _ _ ?hSp8w1_7 (fun hHeld => ?_)
            case hSp8w1_7 => exact trivial
            clear hK K
            try simp only [Act.put, List.setIfInBounds_toArray, List.set_cons_zero, List.set_cons_succ]
            refine wpAnyH_ready (rs := [7]) (by kernel_rfl) (by simp) ?_
            refine AllReadyH.cons rfl (fun K hK => ?_) AllReadyH.nil
            refine Kd.R_append_step (Kd.int .i64) (w0 := w2) B8 rfl (.tmp 92) (.tmp 95) 40 3 (.int .i64 0) 8 rfl Try.underlying40 info3 rfl (by decide) (by omega) (.slice A xs.length c) xs y [.int .i64 y] (fun _ => True) (fun _ => False) rfl (by first | (go_simp; done) | (go_simp; rfl)) ?_ (fun _ hk => hk.elim) (fun _ _ => trivial) HR2.out (Below.refl _ _) HS2.out ?_ ?_
            · exact rfl
            · have := HK8.out; have := hxl.out; omega
            intro v1 w3 hv1 hb3 hg3 ho3
            have HG3 := R_grownBase HR2.out hg3 HS2.out
            have HV := Aside0.mk hv1
            have HT3 := Aside0.mk (HT2.out.keepB HB8.out.1 HG3)
            have HY3 := Aside0.mk (HY2.out.upto HB8.out.2.1 HG3)
            have HF3 := Aside0.mk (HF2.out.grown HB8.out.2.2 HS2.out HR2.out hg3)
            have HS3 := Aside0.mk (Nat.le_trans HS2.out hg3.size)
            have yc3 := blk_cell HY3.out.blk 7
            have yf3 := blk_frozen HY3.out.blk 7
            simp only [List.getElem?_toArray, List.getElem?_cons_zero, List.getElem?_cons_succ] at yc3
            obtain ⟨Av, cv, rfl⟩ := Kd.R_slice HV.out
            have hll := Aside0.mk (show (xs ++ [y]).length = xs.length + 1 from by simp)
            rw [hll.out] at HV
            have V3c := Aside0.mk (R_frame V3b.out (fun k _ h2 => HG3 k (Nat.lt_of_lt_of_le h2 HHB3_8.out)))
            have V4c := Aside0.mk (R_frame V4b.out (fun k _ h2 => HG3 k (Nat.lt_of_lt_of_le h2 HHB4_8.out)))
            clear hv1 hb3 hg3 ho3 HG3
            refine hK.out _ _ ?hSp8w1_8 (fun hHeld => ?_)
            case hSp8w1_8 => exact trivial
            clear hK K
            try simp only [Act.put, List.setIfInBounds_toArray, List.set_cons_zero, List.set_cons_succ]
            refine held_take 8 (some 97) (v := ?vp8w1_8) rfl rfl (by kernel_rfl) (by kernel_rfl) (by kernel_rfl) (fun _ _ _ h => h) (by rfl) ?yp8w1_8 (by assumption) ?_
            case yp8w1_8 => ((intro w hSw); (try dsimp only at hSw); go_simp <;> (with_reducible rfl))
            try simp only [Act.put, List.setIfInBounds_toArray, List.set_cons_zero, List.set_cons_succ]
            refine held_take 9 (some 98) (v := ?vp8w1_9) rfl rfl (by kernel_rfl) (by kernel_rfl) (by kernel_rfl) (fun _ _ _ h => h) (by rfl) ?yp8w1_9 (by assumption) ?_
            case yp8w1_9 => ((intro w hSw); (try dsimp only at hSw); go_simp <;> (with_reducible rfl))
            try simp only [Act.put, List.setIfInBounds_toArray, List.set_cons_zero, List.set_cons_succ]
            refine held_take 10 (some 99) (v := ?vp8w1_10) rfl rfl (by kernel_rfl) (by kernel_rfl) (by kernel_rfl) (fun _ _ _ h => h) (by rfl) ?yp8w1_10 (by assumption) ?_
            case yp8w1_10 => ((intro w hSw); (try dsimp only at hSw); go_simp <;> (with_reducible rfl))
            try simp only [Act.put, List.setIfInBounds_toArray, List.set_cons_zero, List.set_cons_succ]
            refine wpAnyH_ready (rs := [11]) (by kernel_rfl) (by simp) ?_
            refine AllReadyH.cons rfl (fun K hK => ?_) AllReadyH.nil
            go_simp
            refine hK.out _ _ ?hSp8w1_12 (fun hHeld => ?_)
            case hSp8w1_12 => exact trivial
            clear hK K
            try simp only [Act.put, List.setIfInBounds_toArray, List.set_cons_zero, List.set_cons_succ]
            refine wpAnyH_done (by kernel_rfl) ?_ _
            go_wp2_with fail
            have HT4 := Aside0.mk (HT3.out.far HY3.out 7 (.slice Av (xs.length + 1) cv))
            have HY4 := Aside0.mk (HY3.out.put 7 (.slice Av (xs.length + 1) cv) rfl #[.int .i64 n1, .int .i64 n2, .slice A3 n3.length c3, .slice A4 n4.length c4, .bool h5, .int .i64 n6, .int .u32 n7, .slice Av (xs.length + 1) cv, .int .i64 0, .int .i64 0, .int .i64 0] rfl rfl)
            have HF4 := Aside0.mk (HF3.out.far HY3.out NE.out 7 (.slice Av (xs.length + 1) cv))
            have HV4 := Aside0.mk (R_far2 HV.out HB8.out.2.1 7 (.slice Av (xs.length + 1) cv))
            have V3d := Aside0.mk (R_frame V3c.out (set_range (j := 7) (u := .slice Av (xs.length + 1) cv) hlo3.out.2))
            have V4d := Aside0.mk (R_frame V4c.out (set_range (j := 7) (u := .slice Av (xs.length + 1) cv) hlo4.out.2))
            go_roundw
            case rel => exact ⟨j + 1, by go_num, by omega, Av, cv, xs ++ [y], m2, by rw [hll.out]; exact HV4, by rw [hll.out]; exact HY4, HF4, HT4, ⟨by simpa using HS3.out⟩, ⟨by rw [List.length_append, List.length_singleton, hxl.out]⟩, ⟨by rw [List.append_assoc]; exact HE2.out⟩, V3d, V4d⟩
            case measure => (try rw [hw]); simp only [intOf]; omega
          · go_simp
            go_at_call 35; (with_reducible refine (HC.out wr.drew (HT.out.below (below_drew (Below.refl _ _)))).mono ?_); rintro e w2 ⟨rfl, ht, hk⟩; have HT2 := Aside0.mk ht; have hkd := (Keep2.of (below_drew (Below.refl wr.heap.size wr)) : Keep2 t t wr wr.drew).trans hk; have HR2 := Aside0.mk (R_keep2 HR.out hkd HB8.out.1 HB8.out.1); have HY2 := Aside0.mk (HY.out.keep hkd); have HF2 := Aside0.mk (HF.out.keep hkd); have HS2 := Aside0.mk (Nat.le_trans HS.out hkd.size); have yc2 := blk_cell HY2.out.blk 7; simp only [List.getElem?_toArray, List.getElem?_cons_zero, List.getElem?_cons_succ] at yc2; have V3b := Aside0.mk (R_frame V3.out (keep_range hkd hlo3.out.1 (Nat.le_trans HHB3_8.out HS.out))); have V4b := Aside0.mk (R_frame V4.out (keep_range hkd hlo4.out.1 (Nat.le_trans HHB4_8.out HS.out))); clear ht hk hkd
            refine hK.out _ _ ?hSp8w2_6 (fun hHeld => ?_)
            case hSp8w2_6 => exact trivial
            clear hK K
            try simp only [Act.put, List.setIfInBounds_toArray, List.set_cons_zero, List.set_cons_succ]
            refine wpAnyH_ready (rs := [3, 6]) (by kernel_rfl) (by simp) ?_
            refine AllReadyH.cons rfl (fun K hK => ?_) (AllReadyH.cons rfl (fun K hK => ?_) AllReadyH.nil)
            · go_simp
              refine hK.out _ _ ?hSp8w3_4 (fun hHeld => ?_)
              case hSp8w3_4 => exact trivial
              clear hK K
              try simp only [Act.put, List.setIfInBounds_toArray, List.set_cons_zero, List.set_cons_succ]
              refine wpAnyH_ready (rs := [6]) (by kernel_rfl) (by simp) ?_
              refine AllReadyH.cons rfl (fun K hK => ?_) AllReadyH.nil
              go_simp
              have yca := blk_cell (HY2.out.below ((Below.refl _ w2).alloc (Nat.le_refl _) (.cells #[.int .i64 y] 3))).blk 7
              simp only [List.getElem?_toArray, List.getElem?_cons_zero, List.getElem?_cons_succ] at yca
              refine hK.out _ _ ?hSp8w3_7 (fun hHeld => ?_)
              case hSp8w3_7 => exact trivial
              clear hK K
              try simp only [Act.put, List.setIfInBounds_toArray, List.set_cons_zero, List.set_cons_succ]
              refine wpAnyH_ready (rs := [7]) (by kernel_rfl) (by simp) ?_
              refine AllReadyH.cons rfl (fun K hK => ?_) AllReadyH.nil
              refine Kd.R_append_step (Kd.int .i64) (w0 := w2) B8 rfl (.tmp 92) (.tmp 95) 40 3 (.int .i64 0) 8 rfl Try.underlying40 info3 rfl (by decide) (by omega) (.slice A xs.length c) xs y [.int .i64 y] (fun _ => True) (fun _ => False) rfl (by first | (go_simp; done) | (go_simp; rfl)) ?_ (fun _ hk => hk.elim) (fun _ _ => trivial) HR2.out (Below.refl _ _) HS2.out ?_ ?_
              · exact rfl
              · have := HK8.out; have := hxl.out; omega
              intro v1 w3 hv1 hb3 hg3 ho3
              have HG3 := R_grownBase HR2.out hg3 HS2.out
              have HV := Aside0.mk hv1
              have HT3 := Aside0.mk (HT2.out.keepB HB8.out.1 HG3)
              have HY3 := Aside0.mk (HY2.out.upto HB8.out.2.1 HG3)
              have HF3 := Aside0.mk (HF2.out.grown HB8.out.2.2 HS2.out HR2.out hg3)
              have HS3 := Aside0.mk (Nat.le_trans HS2.out hg3.size)
              have yc3 := blk_cell HY3.out.blk 7
              have yf3 := blk_frozen HY3.out.blk 7
              simp only [List.getElem?_toArray, List.getElem?_cons_zero, List.getElem?_cons_succ] at yc3
              obtain ⟨Av, cv, rfl⟩ := Kd.R_slice HV.out
              have hll := Aside0.mk (show (xs ++ [y]).length = xs.length + 1 from by simp)
              rw [hll.out] at HV
              have V3c := Aside0.mk (R_frame V3b.out (fun k _ h2 => HG3 k (Nat.lt_of_lt_of_le h2 HHB3_8.out)))
              have V4c := Aside0.mk (R_frame V4b.out (fun k _ h2 => HG3 k (Nat.lt_of_lt_of_le h2 HHB4_8.out)))
              clear hv1 hb3 hg3 ho3 HG3
              refine hK.out _ _ ?hSp8w3_8 (fun hHeld => ?_)
              case hSp8w3_8 => exact trivial
              clear hK K
              try simp only [Act.put, List.setIfInBounds_toArray, List.set_cons_zero, List.set_cons_succ]
              refine held_take 8 (some 97) (v := ?vp8w3_8) rfl rfl (by kernel_rfl) (by kernel_rfl) (by kernel_rfl) (fun _ _ _ h => h) (by rfl) ?yp8w3_8 (by assumption) ?_
              case yp8w3_8 => ((intro w hSw); (try dsimp only at hSw); go_simp <;> (with_reducible rfl))
              try simp only [Act.put, List.setIfInBounds_toArray, List.set_cons_zero, List.set_cons_succ]
              refine held_take 9 (some 98) (v := ?vp8w3_9) rfl rfl (by kernel_rfl) (by kernel_rfl) (by kernel_rfl) (fun _ _ _ h => h) (by rfl) ?yp8w3_9 (by assumption) ?_
              case yp8w3_9 => ((intro w hSw); (try dsimp only at hSw); go_simp <;> (with_reducible rfl))
              try simp only [Act.put, List.setIfInBounds_toArray, List.set_cons_zero, List.set_cons_succ]
              refine held_take 10 (some 99) (v := ?vp8w3_10) rfl rfl (by kernel_rfl) (by kernel_rfl) (by kernel_rfl) (fun _ _ _ h => h) (by rfl) ?yp8w3_10 (by assumption) ?_
              case yp8w3_10 => ((intro w hSw); (try dsimp only at hSw); go_simp <;> (with_reducible rfl))
              try simp only [Act.put, List.setIfInBounds_toArray, List.set_cons_zero, List.set_cons_succ]
              refine wpAnyH_ready (rs := [11]) (by kernel_rfl) (by simp) ?_
              refine AllReadyH.cons rfl (fun K hK => ?_) AllReadyH.nil
              go_simp
              refine hK.out _ _ ?hSp8w3_12 (fun hHeld => ?_)
              case hSp8w3_12 => exact trivial
              clear hK K
              try simp only [Act.put, List.setIfInBounds_toArray, List.set_cons_zero, List.set_cons_succ]
              refine wpAnyH_done (by kernel_rfl) ?_ _
              go_wp2_with fail
              have HT4 := Aside0.mk (HT3.out.far HY3.out 7 (.slice Av (xs.length + 1) cv))
              have HY4 := Aside0.mk (HY3.out.put 7 (.slice Av (xs.length + 1) cv) rfl #[.int .i64 n1, .int .i64 n2, .slice A3 n3.length c3, .slice A4 n4.length c4, .bool h5, .int .i64 n6, .int .u32 n7, .slice Av (xs.length + 1) cv, .int .i64 0, .int .i64 0, .int .i64 0] rfl rfl)
              have HF4 := Aside0.mk (HF3.out.far HY3.out NE.out 7 (.slice Av (xs.length + 1) cv))
              have HV4 := Aside0.mk (R_far2 HV.out HB8.out.2.1 7 (.slice Av (xs.length + 1) cv))
              have V3d := Aside0.mk (R_frame V3c.out (set_range (j := 7) (u := .slice Av (xs.length + 1) cv) hlo3.out.2))
              have V4d := Aside0.mk (R_frame V4c.out (set_range (j := 7) (u := .slice Av (xs.length + 1) cv) hlo4.out.2))
              go_roundw
              case rel => exact ⟨j + 1, by go_num, by omega, Av, cv, xs ++ [y], m2, by rw [hll.out]; exact HV4, by rw [hll.out]; exact HY4, HF4, HT4, ⟨by simpa using HS3.out⟩, ⟨by rw [List.length_append, List.length_singleton, hxl.out]⟩, ⟨by rw [List.append_assoc]; exact HE2.out⟩, V3d, V4d⟩
              case measure => (try rw [hw]); simp only [intOf]; omega
            · go_simp
              have yca := blk_cell (HY2.out.below ((Below.refl _ w2).alloc (Nat.le_refl _) (.cells #[.int .i64 y] 3))).blk 7
              simp only [List.getElem?_toArray, List.getElem?_cons_zero, List.getElem?_cons_succ] at yca
              refine hK.out _ _ ?hSp8w4_7 (fun hHeld => ?_)
              case hSp8w4_7 => exact trivial
              clear hK K
              try simp only [Act.put, List.setIfInBounds_toArray, List.set_cons_zero, List.set_cons_succ]
              refine wpAnyH_ready (rs := [3]) (by kernel_rfl) (by simp) ?_
              refine AllReadyH.cons rfl (fun K hK => ?_) AllReadyH.nil
              go_simp
              refine hK.out _ _ ?hSp8w4_4 (fun hHeld => ?_)
              case hSp8w4_4 => exact trivial
              clear hK K
              try simp only [Act.put, List.setIfInBounds_toArray, List.set_cons_zero, List.set_cons_succ]
              refine wpAnyH_ready (rs := [7]) (by kernel_rfl) (by simp) ?_
              refine AllReadyH.cons rfl (fun K hK => ?_) AllReadyH.nil
              refine Kd.R_append_step (Kd.int .i64) (w0 := w2) B8 rfl (.tmp 92) (.tmp 95) 40 3 (.int .i64 0) 8 rfl Try.underlying40 info3 rfl (by decide) (by omega) (.slice A xs.length c) xs y [.int .i64 y] (fun _ => True) (fun _ => False) rfl (by first | (go_simp; done) | (go_simp; rfl)) ?_ (fun _ hk => hk.elim) (fun _ _ => trivial) HR2.out (Below.refl _ _) HS2.out ?_ ?_
              · exact rfl
              · have := HK8.out; have := hxl.out; omega
              intro v1 w3 hv1 hb3 hg3 ho3
              have HG3 := R_grownBase HR2.out hg3 HS2.out
              have HV := Aside0.mk hv1
              have HT3 := Aside0.mk (HT2.out.keepB HB8.out.1 HG3)
              have HY3 := Aside0.mk (HY2.out.upto HB8.out.2.1 HG3)
              have HF3 := Aside0.mk (HF2.out.grown HB8.out.2.2 HS2.out HR2.out hg3)
              have HS3 := Aside0.mk (Nat.le_trans HS2.out hg3.size)
              have yc3 := blk_cell HY3.out.blk 7
              have yf3 := blk_frozen HY3.out.blk 7
              simp only [List.getElem?_toArray, List.getElem?_cons_zero, List.getElem?_cons_succ] at yc3
              obtain ⟨Av, cv, rfl⟩ := Kd.R_slice HV.out
              have hll := Aside0.mk (show (xs ++ [y]).length = xs.length + 1 from by simp)
              rw [hll.out] at HV
              have V3c := Aside0.mk (R_frame V3b.out (fun k _ h2 => HG3 k (Nat.lt_of_lt_of_le h2 HHB3_8.out)))
              have V4c := Aside0.mk (R_frame V4b.out (fun k _ h2 => HG3 k (Nat.lt_of_lt_of_le h2 HHB4_8.out)))
              clear hv1 hb3 hg3 ho3 HG3
              refine hK.out _ _ ?hSp8w4_8 (fun hHeld => ?_)
              case hSp8w4_8 => exact trivial
              clear hK K
              try simp only [Act.put, List.setIfInBounds_toArray, List.set_cons_zero, List.set_cons_succ]
              refine held_take 8 (some 97) (v := ?vp8w4_8) rfl rfl (by kernel_rfl) (by kernel_rfl) (by kernel_rfl) (fun _ _ _ h => h) (by rfl) ?yp8w4_8 (by assumption) ?_
              case yp8w4_8 => ((intro w hSw); (try dsimp only at hSw); go_simp <;> (with_reducible rfl))
              try simp only [Act.put, List.setIfInBounds_toArray, List.set_cons_zero, List.set_cons_succ]
              refine held_take 9 (some 98) (v := ?vp8w4_9) rfl rfl (by kernel_rfl) (by kernel_rfl) (by kernel_rfl) (fun _ _ _ h => h) (by rfl) ?yp8w4_9 (by assumption) ?_
              case yp8w4_9 => ((intro w hSw); (try dsimp only at hSw); go_simp <;> (with_reducible rfl))
              try simp only [Act.put, List.setIfInBounds_toArray, List.set_cons_zero, List.set_cons_succ]
              refine held_take 10 (some 99) (v := ?vp8w4_10) rfl rfl (by kernel_rfl) (by kernel_rfl) (by kernel_rfl) (fun _ _ _ h => h) (by rfl) ?yp8w4_10 (by assumption) ?_
              case yp8w4_10 => ((intro w hSw); (try dsimp only at hSw); go_simp <;> (with_reducible rfl))
              try simp only [Act.put, List.setIfInBounds_toArray, List.set_cons_zero, List.set_cons_succ]
              refine wpAnyH_ready (rs := [11]) (by kernel_rfl) (by simp) ?_
              refine AllReadyH.cons rfl (fun K hK => ?_) AllReadyH.nil
              go_simp
              refine hK.out _ _ ?hSp8w4_12 (fun hHeld => ?_)
              case hSp8w4_12 => exact trivial
              clear hK K
              try simp only [Act.put, List.setIfInBounds_toArray, List.set_cons_zero, List.set_cons_succ]
              refine wpAnyH_done (by kernel_rfl) ?_ _
              go_wp2_with fail
              have HT4 := Aside0.mk (HT3.out.far HY3.out 7 (.slice Av (xs.length + 1) cv))
              have HY4 := Aside0.mk (HY3.out.put 7 (.slice Av (xs.length + 1) cv) rfl #[.int .i64 n1, .int .i64 n2, .slice A3 n3.length c3, .slice A4 n4.length c4, .bool h5, .int .i64 n6, .int .u32 n7, .slice Av (xs.length + 1) cv, .int .i64 0, .int .i64 0, .int .i64 0] rfl rfl)
              have HF4 := Aside0.mk (HF3.out.far HY3.out NE.out 7 (.slice Av (xs.length + 1) cv))
              have HV4 := Aside0.mk (R_far2 HV.out HB8.out.2.1 7 (.slice Av (xs.length + 1) cv))
              have V3d := Aside0.mk (R_frame V3c.out (set_range (j := 7) (u := .slice Av (xs.length + 1) cv) hlo3.out.2))
              have V4d := Aside0.mk (R_frame V4c.out (set_range (j := 7) (u := .slice Av (xs.length + 1) cv) hlo4.out.2))
              go_roundw
              case rel => exact ⟨j + 1, by go_num, by omega, Av, cv, xs ++ [y], m2, by rw [hll.out]; exact HV4, by rw [hll.out]; exact HY4, HF4, HT4, ⟨by simpa using HS3.out⟩, ⟨by rw [List.length_append, List.length_singleton, hxl.out]⟩, ⟨by rw [List.append_assoc]; exact HE2.out⟩, V3d, V4d⟩
              case measure => (try rw [hw]); simp only [intOf]; omega
      · have h1z : ¬ (j : Int) < (k8 : Int) := by omega
        have HE2 := Aside0.mk (show xs = n8 ∧ ⟨rest, bad⟩ = m8 from by
          have h := HE.out
          rw [show k8 - j = 0 from by omega] at h
          simpa [repM] using h)
        clear HE
        go_wp2_with fail
        go_meet
        case rel => exact ⟨A, c, by rw [← HE2.out.1]; exact HR, by rw [← HE2.out.1]; exact HY, HF, by rw [← HE2.out.2]; exact HT, HS, V3, V4⟩
  case rest =>
  obtain ⟨A8, c8, UX, Y16, F16, T16, HS, U3_16, U4_16⟩ := hcut
  clear HR0 HBS Y15 F15 T15 U3_15 U4_15
  rename_i wc _
  generalize wc = W16 at *
  have U8_16 := Aside0.mk (R_close UX.out)
  have hlo8 := Aside0.mk (show t < B8 ∧ b1 < B8 from ⟨HB8.out.1, HB8.out.2.1⟩)
  have hBs8 := Aside0.mk HB8.out.2.2
  have hBl8 := Aside0.mk (show w.heap.size ≤ B8 from Nat.le_of_lt HB8.out.2.2)
  obtain ⟨H8, hH8⟩ : ∃ H, W16.heap.size = H := ⟨_, rfl⟩
  rw [hH8] at U8_16
  have hhi8_16 := Aside0.mk (show H8 ≤ W16.heap.size from Nat.le_of_eq hH8.symm)
  have hhi3_16 := Aside0.mk (show H3 ≤ W16.heap.size from Nat.le_trans HHB3_8.out HS.out)
  clear hhi3_15
  have hhi4_16 := Aside0.mk (show H4 ≤ W16.heap.size from Nat.le_trans HHB4_8.out HS.out)
  clear hhi4_15
  clear UX HS HB8 hH8
  try dsimp only
  repeat ((fail_if_success (show Code.wp _ (Code.seq (Code.region 21 _ _) _) _ _ _)); (first | go_values | go_skip | go_guarded | go_step | go_upon | go_back))
  go_wp2_with fail
  refine (C9.out t W16 T16.out).mono ?_
  rintro e W17 ⟨rfl, ht, hk⟩
  have F17 := Aside0.mk (F16.out.keep hk)
  have T17 := Aside0.mk ht
  have Y17 := Aside0.mk (Y16.out.keep hk)
  have U3_17 := Aside0.mk (R_frame U3_16.out (keep_range hk hlo3.out.1 hhi3_16.out))
  have hhi3_17 := Aside0.mk (Nat.le_trans hhi3_16.out hk.size)
  have U4_17 := Aside0.mk (R_frame U4_16.out (keep_range hk hlo4.out.1 hhi4_16.out))
  have hhi4_17 := Aside0.mk (Nat.le_trans hhi4_16.out hk.size)
  have U8_17 := Aside0.mk (R_frame U8_16.out (keep_range hk hlo8.out.1 hhi8_16.out))
  have hhi8_17 := Aside0.mk (Nat.le_trans hhi8_16.out hk.size)
  clear ht hk C9 T16 F16 Y16 U3_16 hhi3_16 U4_16 hhi4_16 U8_16 hhi8_16
  have f17 := blk_frozen Y17.out.blk 8
  have g17 := blk_cell Y17.out.blk 8
  simp only [List.getElem?_toArray, List.getElem?_cons_zero, List.getElem?_cons_succ] at g17
  try dsimp only
  repeat ((fail_if_success (show Code.wp _ (Code.seq (Code.region 22 _ _) _) _ _ _)); (first | go_values | go_skip | go_guarded | go_step | go_upon | go_back))
  have F18 := Aside0.mk (F17.out.far Y17.out NE.out 8 (.int .i64 n9))
  have T18 := Aside0.mk (T17.out.far Y17.out 8 (.int .i64 n9))
  have Y18 := Aside0.mk (Y17.out.put 8 (.int .i64 n9) rfl #[.int .i64 n1, .int .i64 n2, .slice A3 n3.length c3, .slice A4 n4.length c4, .bool h5, .int .i64 n6, .int .u32 n7, .slice A8 n8.length c8, .int .i64 n9, .int .i64 0, .int .i64 0] rfl rfl)
  have U3_18 := Aside0.mk (R_frame U3_17.out (set_range (j := 8) (u := .int .i64 n9) hlo3.out.2))
  have hhi3_18 := Aside0.mk (show H3 ≤ (W17.setCell ⟨b1, 8, none⟩ (.int .i64 n9)).heap.size from by simpa using hhi3_17.out)
  have U4_18 := Aside0.mk (R_frame U4_17.out (set_range (j := 8) (u := .int .i64 n9) hlo4.out.2))
  have hhi4_18 := Aside0.mk (show H4 ≤ (W17.setCell ⟨b1, 8, none⟩ (.int .i64 n9)).heap.size from by simpa using hhi4_17.out)
  have U8_18 := Aside0.mk (R_frame U8_17.out (set_range (j := 8) (u := .int .i64 n9) hlo8.out.2))
  have hhi8_18 := Aside0.mk (show H8 ≤ (W17.setCell ⟨b1, 8, none⟩ (.int .i64 n9)).heap.size from by simpa using hhi8_17.out)
  clear T17 F17 Y17 f17 g17 U3_17 hhi3_17 U4_17 hhi4_17 U8_17 hhi8_17
  generalize W17.setCell ⟨b1, 8, none⟩ (.int .i64 n9) = W18 at *
  go_wp2_with fail
  refine (C10.out t W18 T18.out).mono ?_
  rintro e W19 ⟨rfl, ht, hk⟩
  have F19 := Aside0.mk (F18.out.keep hk)
  have T19 := Aside0.mk ht
  have Y19 := Aside0.mk (Y18.out.keep hk)
  have U3_19 := Aside0.mk (R_frame U3_18.out (keep_range hk hlo3.out.1 hhi3_18.out))
  have hhi3_19 := Aside0.mk (Nat.le_trans hhi3_18.out hk.size)
  have U4_19 := Aside0.mk (R_frame U4_18.out (keep_range hk hlo4.out.1 hhi4_18.out))
  have hhi4_19 := Aside0.mk (Nat.le_trans hhi4_18.out hk.size)
  have U8_19 := Aside0.mk (R_frame U8_18.out (keep_range hk hlo8.out.1 hhi8_18.out))
  have hhi8_19 := Aside0.mk (Nat.le_trans hhi8_18.out hk.size)
  clear ht hk C10 T18 F18 Y18 U3_18 hhi3_18 U4_18 hhi4_18 U8_18 hhi8_18
  have f19 := blk_frozen Y19.out.blk 9
  have g19 := blk_cell Y19.out.blk 9
  simp only [List.getElem?_toArray, List.getElem?_cons_zero, List.getElem?_cons_succ] at g19
  try dsimp only
  repeat ((fail_if_success (show Code.wp _ (Code.seq (Code.region 23 _ _) _) _ _ _)); (first | go_values | go_skip | go_guarded | go_step | go_upon | go_back))
  have F20 := Aside0.mk (F19.out.far Y19.out NE.out 9 (.int .i64 n10))
  have T20 := Aside0.mk (T19.out.far Y19.out 9 (.int .i64 n10))
  have Y20 := Aside0.mk (Y19.out.put 9 (.int .i64 n10) rfl #[.int .i64 n1, .int .i64 n2, .slice A3 n3.length c3, .slice A4 n4.length c4, .bool h5, .int .i64 n6, .int .u32 n7, .slice A8 n8.length c8, .int .i64 n9, .int .i64 n10, .int .i64 0] rfl rfl)
  have U3_20 := Aside0.mk (R_frame U3_19.out (set_range (j := 9) (u := .int .i64 n10) hlo3.out.2))
  have hhi3_20 := Aside0.mk (show H3 ≤ (W19.setCell ⟨b1, 9, none⟩ (.int .i64 n10)).heap.size from by simpa using hhi3_19.out)
  have U4_20 := Aside0.mk (R_frame U4_19.out (set_range (j := 9) (u := .int .i64 n10) hlo4.out.2))
  have hhi4_20 := Aside0.mk (show H4 ≤ (W19.setCell ⟨b1, 9, none⟩ (.int .i64 n10)).heap.size from by simpa using hhi4_19.out)
  have U8_20 := Aside0.mk (R_frame U8_19.out (set_range (j := 9) (u := .int .i64 n10) hlo8.out.2))
  have hhi8_20 := Aside0.mk (show H8 ≤ (W19.setCell ⟨b1, 9, none⟩ (.int .i64 n10)).heap.size from by simpa using hhi8_19.out)
  clear T19 F19 Y19 f19 g19 U3_19 hhi3_19 U4_19 hhi4_19 U8_19 hhi8_19
  generalize W19.setCell ⟨b1, 9, none⟩ (.int .i64 n10) = W20 at *
  go_wp2_with fail
  refine (C11.out t W20 T20.out).mono ?_
  rintro e W21 ⟨rfl, ht, hk⟩
  have F21 := Aside0.mk (F20.out.keep hk)
  have T21 := Aside0.mk ht
  have Y21 := Aside0.mk (Y20.out.keep hk)
  have U3_21 := Aside0.mk (R_frame U3_20.out (keep_range hk hlo3.out.1 hhi3_20.out))
  have hhi3_21 := Aside0.mk (Nat.le_trans hhi3_20.out hk.size)
  have U4_21 := Aside0.mk (R_frame U4_20.out (keep_range hk hlo4.out.1 hhi4_20.out))
  have hhi4_21 := Aside0.mk (Nat.le_trans hhi4_20.out hk.size)
  have U8_21 := Aside0.mk (R_frame U8_20.out (keep_range hk hlo8.out.1 hhi8_20.out))
  have hhi8_21 := Aside0.mk (Nat.le_trans hhi8_20.out hk.size)
  clear ht hk C11 T20 F20 Y20 U3_20 hhi3_20 U4_20 hhi4_20 U8_20 hhi8_20
  have f21 := blk_frozen Y21.out.blk 10
  have g21 := blk_cell Y21.out.blk 10
  simp only [List.getElem?_toArray, List.getElem?_cons_zero, List.getElem?_cons_succ] at g21
  try dsimp only
  repeat ((fail_if_success (show Code.wp _ (Code.seq (Code.region 24 _ _) _) _ _ _)); (first | go_values | go_skip | go_guarded | go_step | go_upon | go_back))
  have F22 := Aside0.mk (F21.out.far Y21.out NE.out 10 (.int .i64 n11))
  have T22 := Aside0.mk (T21.out.far Y21.out 10 (.int .i64 n11))
  have Y22 := Aside0.mk (Y21.out.put 10 (.int .i64 n11) rfl #[.int .i64 n1, .int .i64 n2, .slice A3 n3.length c3, .slice A4 n4.length c4, .bool h5, .int .i64 n6, .int .u32 n7, .slice A8 n8.length c8, .int .i64 n9, .int .i64 n10, .int .i64 n11] rfl rfl)
  have U3_22 := Aside0.mk (R_frame U3_21.out (set_range (j := 10) (u := .int .i64 n11) hlo3.out.2))
  have hhi3_22 := Aside0.mk (show H3 ≤ (W21.setCell ⟨b1, 10, none⟩ (.int .i64 n11)).heap.size from by simpa using hhi3_21.out)
  have U4_22 := Aside0.mk (R_frame U4_21.out (set_range (j := 10) (u := .int .i64 n11) hlo4.out.2))
  have hhi4_22 := Aside0.mk (show H4 ≤ (W21.setCell ⟨b1, 10, none⟩ (.int .i64 n11)).heap.size from by simpa using hhi4_21.out)
  have U8_22 := Aside0.mk (R_frame U8_21.out (set_range (j := 10) (u := .int .i64 n11) hlo8.out.2))
  have hhi8_22 := Aside0.mk (show H8 ≤ (W21.setCell ⟨b1, 10, none⟩ (.int .i64 n11)).heap.size from by simpa using hhi8_21.out)
  clear T21 F21 Y21 f21 g21 U3_21 hhi3_21 U4_21 hhi4_21 U8_21 hhi8_21
  generalize W21.setCell ⟨b1, 10, none⟩ (.int .i64 n11) = W22 at *
  have CW := Aside0.mk (whole_any t m11 W22 T22.out)
  cases hB : (!m11.bad && m11.rest.isEmpty) with
  | true =>
    rw [hB] at CW
    have hB2 : ¬ (m11.bad = true ∨ 0 < m11.rest.length) := by
      obtain ⟨r, b⟩ := m11
      simp only [Bool.and_eq_true, Bool.not_eq_true', List.isEmpty_iff] at hB
      rintro (h | h)
      · rw [hB.1] at h; cases h
      · rw [hB.2] at h; simp at h
    replace HO := Aside0.mk (HO.out.trans (if_neg hB2))
    clear hB hB2
    go_wp2_with fail
    refine CW.out.mono ?_
    rintro e W23 ⟨rfl, hb⟩
    have F23 := Aside0.mk (F22.out.below hb)
    have Y23 := Aside0.mk (Y22.out.below hb)
    have U3_23 := Aside0.mk (R_frame U3_22.out (below_range hb hhi3_22.out))
    have U4_23 := Aside0.mk (R_frame U4_22.out (below_range hb hhi4_22.out))
    have U8_23 := Aside0.mk (R_frame U8_22.out (below_range hb hhi8_22.out))
    have WL := Aside0.mk (show w.heap.size < B3 ∧ w.heap.size < B4 ∧ w.heap.size < B8 from ⟨hBs3.out, hBs4.out, hBs8.out⟩)
    clear hb CW
    try dsimp only
    repeat ((fail_if_success (show Oper.wp _ (Oper.mk _ (Op.load 50 _) _ _ _ _) _ _ _ _)); (first | go_values | go_skip | go_guarded | go_step | go_upon | go_back))
    refine wp_load_row Y23.out.blk rfl rfl Try.underlying50 rfl (by kernel_rfl) ?_
    try go_simp
    try dsimp only
    repeat ((fail_if_success (show Oper.wp _ (Oper.mk none (Op.store _ _ _) _ _ _ _) _ _ _ _)); (first | go_values | go_skip | go_guarded | go_step | go_upon | go_back))
    refine wp_store_row (c' := #[.int .i64 n1, .int .i64 n2, .slice A3 n3.length c3, .slice A4 n4.length c4, .bool h5, .int .i64 n6, .int .u32 n7, .slice A8 n8.length c8, .int .i64 n9, .int .i64 n10, .int .i64 n11]) F23.out.X.blk rfl rfl rfl rfl (by kernel_rfl) rfl (by simp [Value.oneCell']) ?_
    have XX := Aside0.mk (F23.out.X.row #[.int .i64 n1, .int .i64 n2, .slice A3 n3.length c3, .slice A4 n4.length c4, .bool h5, .int .i64 n6, .int .u32 n7, .slice A8 n8.length c8, .int .i64 n9, .int .i64 n10, .int .i64 n11] rfl)
    have KK := Aside0.mk (F23.out.K.mineRow F23.out.X #[.int .i64 n1, .int .i64 n2, .slice A3 n3.length c3, .slice A4 n4.length c4, .bool h5, .int .i64 n6, .int .u32 n7, .slice A8 n8.length c8, .int .i64 n9, .int .i64 n10, .int .i64 n11])
    have UU := Aside0.mk (show OwnRs (W23.setRow w.heap.size #[.int .i64 n1, .int .i64 n2, .slice A3 n3.length c3, .slice A4 n4.length c4, .bool h5, .int .i64 n6, .int .u32 n7, .slice A8 n8.length c8, .int .i64 n9, .int .i64 n10, .int .i64 n11]) w.heap.size (.slice A3 n3.length c3) (.slice A4 n4.length c4) (.slice A8 n8.length c8) ⟨n1, n2, n3, n4, h5, n6, n7, n8, n9, n10, n11⟩ from own_of3' (R_frame U3_23.out (row_range WL.out.1)) (R_frame U4_23.out (row_range WL.out.2.1)) (R_frame U8_23.out (row_range WL.out.2.2)) HHB3_8.out hBl3.out hBl4.out hBl8.out)
    generalize W23.setRow w.heap.size #[.int .i64 n1, .int .i64 n2, .slice A3 n3.length c3, .slice A4 n4.length c4, .bool h5, .int .i64 n6, .int .u32 n7, .slice A8 n8.length c8, .int .i64 n9, .int .i64 n10, .int .i64 n11] = WF at *
    go_wp2_with fail
    exact bodyPost_ret (v := .tuple #[.agg #[.int .i64 n1, .int .i64 n2, .slice A3 n3.length c3, .slice A4 n4.length c4, .bool h5, .int .i64 n6, .int .u32 n7, .slice A8 n8.length c8, .int .i64 n9, .int .i64 n10, .int .i64 n11], .int .i64 0]) (results_row rfl rfl rfl XX.out.blk Try.underlying50 rfl (by kernel_rfl)) rfl ⟨⟨.slice A3 n3.length c3, .slice A4 n4.length c4, .slice A8 n8.length c8, by rw [HO.out]; rfl, by rw [HO.out]; exact UU.out⟩, Keep2.below KK.out (Below.refl w.heap.size w) HLT.out HLT.out (Nat.le_refl _)⟩
  | false =>
    rw [hB] at CW
    have hB2 : m11.bad = true ∨ 0 < m11.rest.length := by
      rcases not_whole (p := False) m11 hB with h | h | h
      · exact .inl h
      · exact .inr h
      · exact h.elim
    replace HO := Aside0.mk (HO.out.trans (if_pos hB2))
    clear hB hB2
    go_wp2_with fail
    refine CW.out.mono ?_
    rintro e W23 ⟨rfl, hb⟩
    have F23 := Aside0.mk (F22.out.below hb)
    clear hb CW
    try dsimp only
    repeat ((fail_if_success (show Oper.wp _ (Oper.mk none (Op.store _ _ _) _ _ _ _) _ _ _ _)); (first | go_values | go_skip | go_guarded | go_step | go_upon | go_back))
    refine wp_store_row (c' := #[.int .i64 0, .int .i64 0, .slice none 0 0, .slice none 0 0, .bool false, .int .i64 0, .int .u32 0, .slice none 0 0, .int .i64 0, .int .i64 0, .int .i64 0]) F23.out.X.blk rfl rfl rfl rfl (by kernel_rfl) rfl (by simp [Value.oneCell']) ?_
    have XX := Aside0.mk (F23.out.X.row #[.int .i64 0, .int .i64 0, .slice none 0 0, .slice none 0 0, .bool false, .int .i64 0, .int .u32 0, .slice none 0 0, .int .i64 0, .int .i64 0, .int .i64 0] rfl)
    have KK := Aside0.mk (F23.out.K.mineRow F23.out.X #[.int .i64 0, .int .i64 0, .slice none 0 0, .slice none 0 0, .bool false, .int .i64 0, .int .u32 0, .slice none 0 0, .int .i64 0, .int .i64 0, .int .i64 0])
    generalize W23.setRow w.heap.size #[.int .i64 0, .int .i64 0, .slice none 0 0, .slice none 0 0, .bool false, .int .i64 0, .int .u32 0, .slice none 0 0, .int .i64 0, .int .i64 0, .int .i64 0] = WF at *
    go_wp2_with fail
    exact bodyPost_ret (v := .tuple #[.agg #[.int .i64 0, .int .i64 0, .slice none 0 0, .slice none 0 0, .bool false, .int .i64 0, .int .u32 0, .slice none 0 0, .int .i64 0, .int .i64 0, .int .i64 0], .int .i64 171]) (results_row rfl rfl rfl XX.out.blk Try.underlying50 rfl (by kernel_rfl)) rfl ⟨⟨.slice none 0 0, .slice none 0 0, .slice none 0 0, by rw [HO.out]; rfl, by rw [HO.out]; exact ownRs_nil _ _⟩, Keep2.below KK.out (Below.refl w.heap.size w) HLT.out HLT.out (Nat.le_refl _)⟩
end Go.Proofs.Ytpaknjmcjblahaa.H
