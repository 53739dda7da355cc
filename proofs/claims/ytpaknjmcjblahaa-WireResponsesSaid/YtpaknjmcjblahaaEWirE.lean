/- WirE. -/
import Derived.Test.YtpaknjmcjblahaaEWirD
import Derived.Laws.ResultCell
namespace Go.Proofs.Ytpaknjmcjblahaa.H
open Go.RowKit Go.Proofs.Ytpaknjmcjblahaa.P Go.Proofs.YtpaknjmcjblahaaW.PrintWords Go.Proofs.YtpaknjmcjblahaaW.PrintLast Go.Proofs.YtpaknjmcjblahaaW.PrintMore
set_option linter.unusedVariables false
set_option linter.unusedSimpArgs false
set_option maxRecDepth 20000
def OwnRs (w : World) (base : Nat) (v2 v3 v7 : Value) (r : Rs) : Prop :=
  Kd.R (Kd.int .i64) 3 w base (fun k => some k ≠ v7.ownBlock) v2 r.ids ∧ Kd.R k29 29 w base (fun _ => True) v3 r.rules ∧ Kd.R (Kd.int .i64) 3 w base (fun k => some k ≠ v2.ownBlock) v7 r.dv
theorem ownRs_nil (w : World) (base : Nat) : OwnRs w base (.slice none 0 0) (.slice none 0 0) (.slice none 0 0) zRs := ⟨Kd.R_nil _ _ _ _ _, Kd.R_nil _ _ _ _ _, Kd.R_nil _ _ _ _ _⟩
theorem R_far2 {α : Type} {d : Kd α} {e base b : Nat} {W : World} {v : Value} {xs : List α} (h : d.R e W base (fun _ => True) v xs) (hb : b < base) (j : Nat) (u : Value) : d.R e (W.setCell ⟨b, j, none⟩ u) base (fun _ => True) v xs :=
  Kd.R_mono (Kd.R_step (Kd.R_bound h) (fun k ho _ => Below.heap_setCell W ⟨b, j, none⟩ u k (by have := ho.2.1; show k ≠ b; omega))) (fun _ _ => trivial)
theorem R_farRow2 {α : Type} {d : Kd α} {e base b : Nat} {W : World} {v : Value} {xs : List α} (h : d.R e W base (fun _ => True) v xs) (hb : b < base) (cs : Array Value) : d.R e (W.setRow b cs) base (fun _ => True) v xs :=
  Kd.R_mono (Kd.R_step (Kd.R_bound h) (fun k ho _ => heap_setRow (by have := ho.2.1; omega))) (fun _ _ => trivial)
theorem own_of3 {w W : World} {B2 B3 B7 : Nat} {v2 v3 v7 : Value} {r : Rs} (h2 : Kd.R (Kd.int .i64) 3 W B2 (fun _ => True) v2 r.ids) (h3 : Kd.R k29 29 W B3 (fun _ => True) v3 r.rules) (h7 : Kd.R (Kd.int .i64) 3 W B7 (fun _ => True) v7 r.dv)
    (hlt : ∀ k, v2.ownBlock = some k → k < B7) (b2 : w.heap.size ≤ B2) (b3 : w.heap.size ≤ B3) (b7 : w.heap.size ≤ B7) : OwnRs W w.heap.size v2 v3 v7 r := by
  refine ⟨Kd.R_mono (Kd.R_tight rfl (Kd.R_lower h2 b2)) (fun k hk e => ?_), Kd.R_lower h3 b3, Kd.R_mono (Kd.R_tight rfl (Kd.R_lower h7 b7)) (fun k hk e => ?_)⟩
  · have := hlt k hk.symm
    have := Kd.R_base h7 k e.symm
    omega
  · have := hlt k e.symm
    have := Kd.R_base h7 k hk.symm
    omega
structure Fx (w W : World) (t h q : Nat) : Prop where
  X : Mine w W t h w.heap.size #[.int .i64 0, .int .i64 0, .slice none 0 0, .slice none 0 0, .bool false, .int .i64 0, .int .u32 0, .slice none 0 0, .int .i64 0, .int .i64 0, .int .i64 0] 50
  Q : Mine w W t h q #[.pointer (some ⟨t, 0, none⟩)] 73
  K : Keep2 t h w W
theorem Fx.keep {w W W' : World} {t h q : Nat} (f : Fx w W t h q) (p : Keep2 t h W W') : Fx w W' t h q := ⟨f.X.keep p, f.Q.keep p, f.K.trans p⟩
theorem Fx.below {w W W' : World} {t h q : Nat} (f : Fx w W t h q) (p : Below W.heap.size W W') : Fx w W' t h q := f.keep (Keep2.of p)
theorem Fx.far {w W : World} {t h q b : Nat} {cs : Array Value} {ty : TypeId} (f : Fx w W t h q) (y : Mine w W t h b cs ty) (n1 : w.heap.size ≠ b) (n2 : q ≠ b) (j : Nat) (u : Value) : Fx w (W.setCell ⟨b, j, none⟩ u) t h q := ⟨f.X.far n1 j u, f.Q.far n2 j u, f.K.mine y j u⟩
theorem Fx.farRow {w W : World} {t h q b : Nat} {cs : Array Value} {ty : TypeId} (f : Fx w W t h q) (y : Mine w W t h b cs ty) (n1 : w.heap.size ≠ b) (n2 : q ≠ b) (c' : Array Value) : Fx w (W.setRow b c') t h q := ⟨f.X.farRow n1 c', f.Q.farRow n2 c', f.K.mineRow y c'⟩
theorem SQ {w W0 W W' : World} {t h q : Nat} (f : Fx w W0 t h q) (p : Keep2 t h W W') (e : W = W0 ∨ ∃ o, W = W0.alloc o := by first | exact .inl rfl | exact .inr ⟨_, rfl⟩) : W'.cell? ⟨q, 0, none⟩ = some (.pointer (some ⟨t, 0, none⟩)) := by
  rcases e with rfl | ⟨o, rfl⟩
  · exact blk_cell (f.keep p).Q.blk 0
  · exact blk_cell ((f.below ((Below.refl _ _).alloc (Nat.le_refl _) o)).keep p).Q.blk 0
theorem SQ2 {w W0 W W1 W2 W' : World} {t h q : Nat} (f : Fx w W0 t h q) (p1 : Keep2 t h W W1) (p : Keep2 t h W2 W') (e : W = W0 ∨ ∃ o, W = W0.alloc o := by first | exact .inl rfl | exact .inr ⟨_, rfl⟩) (e2 : W2 = W1 ∨ ∃ o, W2 = W1.alloc o := by first | exact .inl rfl | exact .inr ⟨_, rfl⟩) : W'.cell? ⟨q, 0, none⟩ = some (.pointer (some ⟨t, 0, none⟩)) := by
  have f1 : Fx w W1 t h q := by
    rcases e with rfl | ⟨o, rfl⟩
    · exact f.keep p1
    · exact (f.below ((Below.refl _ _).alloc (Nat.le_refl _) o)).keep p1
  rcases e2 with rfl | ⟨o, rfl⟩
  · exact blk_cell (f1.keep p).Q.blk 0
  · exact blk_cell ((f1.below ((Below.refl _ _).alloc (Nat.le_refl _) o)).keep p).Q.blk 0
theorem wp_store_row_step {P : Program} {ops : Array Oper} {o : Oper} {a : Act} {w : World} {K : Act → World → Prop} {Q : Exit → Act → World → Prop} {t ty : TypeId} {x y : Operand} {g : Nat} {c c' : Array Value} (hw : Region.wanted o (yielded ops a.tmps) = true)
    (hg : w.heap[g]? = some (.cells c ty (0, 0))) (ho : o.op = .store t x y) (hd : o.dst = none) (hx : a.eval x = .pointer (some ⟨g, 0, none⟩)) (hy : a.eval y = .agg c')
    (hi : (P.info? t).map (·.size) = some c'.size) (hs : c.size = c'.size) (h1 : c'.all (·.oneCell') = true) (hk : K a (w.setRow g c')) : if Region.wanted o (yielded ops a.tmps) = true then Oper.wp P o a w K Q else K (a.put o.dst undef) w := by
  rw [if_pos hw]
  exact wp_store_row hg ho hd hx hy hi hs h1 hk
theorem cell_setRow {W : World} {q b : Nat} {C : Array Value} {v : Value} (h : q ≠ b) (hc : W.cell? ⟨q, 0, none⟩ = some v) : (W.setRow b C).cell? ⟨q, 0, none⟩ = some v := (World.cell?_of_block (heap_setRow h)).trans hc
theorem size_of_keep {t h : Nat} {W W1 W' : World} {n : Nat} (hn : n ≤ W.heap.size) (e : W1 = W ∨ ∃ o, W1 = W.alloc o) (p : Keep2 t h W1 W') : n ≤ W'.heap.size := by
  have := p.size
  rcases e with rfl | ⟨o, rfl⟩
  · omega
  · simp at this; omega
theorem open_end {w W' : World} {t h q b s : Nat} {m : Mc} {Z C : Array Value} {ty : TypeId} (hT : t < s ∧ h < s ∧ q < s ∧ w.heap.size < s) (hs : s ≤ b) (hn : noU8 Z = true) (hn2 : noU8 C = true) (F : Fx w W' t h q) (T : TK W' t h m) (hb : W'.heap[b]? = some (.cells Z ty (0, 0))) :
    Mine w (W'.setRow b C) t h b C ty ∧ Fx w (W'.setRow b C) t h q ∧ TK (W'.setRow b C) t h m ∧ (w.heap.size ≠ b ∧ q ≠ b) := by
  have Y : Mine w W' t h b Z ty := ⟨hb, by omega, hn, by omega, by omega⟩
  exact ⟨Y.row C hn2, F.farRow Y (by omega) (by omega) C, T.farRow Y C, by omega, by omega⟩
theorem open_end1 {w W' : World} {t h q b s : Nat} {m : Mc} {Z C : Array Value} {ty : TypeId} (hT : t < s ∧ h < s ∧ q < s ∧ w.heap.size < s) (hs : s ≤ b) (hn : noU8 Z = true) (hn2 : noU8 C = true) (F : Fx w W' t h q) (T : TK W' t h m) (hb : W'.heap[b]? = some (.cells Z ty (0, 0))) :
    ∃ b1, Value.pointer (some ⟨b, 0, none⟩) = .pointer (some ⟨b1, 0, none⟩) ∧ Aside0 (Mine w (W'.setRow b C) t h b1 C ty) ∧ Aside0 (Fx w (W'.setRow b C) t h q) ∧ Aside0 (TK (W'.setRow b C) t h m) ∧ Aside0 (w.heap.size ≠ b1 ∧ q ≠ b1) :=
  have E := open_end (C := C) hT hs hn hn2 F T hb
  ⟨b, rfl, ⟨E.1⟩, ⟨E.2.1⟩, ⟨E.2.2.1⟩, ⟨E.2.2.2⟩⟩
set_option maxHeartbeats 8000000 in
theorem read_any (A : Option Addr) (c : Nat) (l : List Int) (w : World) (hC : Kd.C (Kd.int .u8) w A l.length l) (hc : l.length ≤ c) (hl : l.length < 140737488355328) (hby : bytes l) :
    Calls Try.prog 16 #[.slice A l.length c] w fun e w' => (∃ v2 v3 v7, e = .returned (.tuple #[.agg (rsVals v2 v3 v7 (readOut l).1).toArray, .int .i64 (readOut l).2]) ∧ OwnRs w' w.heap.size v2 v3 v7 (readOut l).1) ∧ Below w.heap.size w w' := by
  have hb0 : bytes (Mc.mk l false).rest := hby
  rcases q1 : numM 65535 ⟨l, false⟩ with ⟨n1, m1⟩
  have hd1 := numM_bound 65535 ⟨l, false⟩ hb0 (by decide)
  have hb1 := numM_bytes 65535 ⟨l, false⟩ hb0
  rw [q1] at hd1 hb1
  simp only [] at hd1 hb1
  have C1 := Aside0.mk (fun (t h : Nat) (W : World) (k : TK W t h (⟨l, false⟩)) => tnum_any t h ⟨l, false⟩ 65535 (by decide) (by decide) W k)
  rw [q1] at C1
  simp only [] at C1
  rcases q2 : numM wideW m1 with ⟨n2, m2⟩
  have hd2 := numM_bound wideW m1 hb1 (by decide)
  have hb2 := numM_bytes wideW m1 hb1
  rw [q2] at hd2 hb2
  simp only [] at hd2 hb2
  have C2 := Aside0.mk (fun (t h : Nat) (W : World) (k : TK W t h (m1)) => tnum_any t h m1 wideW (by decide) (by decide) W k)
  rw [q2] at C2
  simp only [] at C2
  unfold wideW at C2
  rcases q3 : listM (numM wideW) m2 with ⟨n3, m3⟩
  have hb3 := listM_bytes (fun m hm => numM_bytes wideW m hm) m2 hb2
  rw [q3] at hb3
  simp only [] at hb3
  have C3 := Aside0.mk (fun (t h q : Nat) (W : World) (hq : W.heap[q]? = some (.cells #[.pointer (some ⟨t, 0, none⟩)] 73 (0, 0))) (n1 : q ≠ t) (n2 : q ≠ h) (k : TK W t h (m2)) => listI_any 42 #[] #[.pointer (some ⟨q, 0, none⟩)] (numM wideW) (enters' Try.func42 (by kernel_rfl) rfl) t h m2 W k (clowideW_any t h q W hq n1 n2))
  rw [q3] at C3
  simp only [] at C3
  rcases q4 : listM ruleM m3 with ⟨n4, m4⟩
  have hb4 := listM_bytes ruleM_bytes m3 hb3
  rw [q4] at hb4
  simp only [] at hb4
  have C4 := Aside0.mk (fun (t h : Nat) (W : World) (k : TK W t h (m3)) => listR_any 33 #[.pointer (some ⟨t, 0, none⟩)] #[] ruleM (enters' Try.func33 (by kernel_rfl) rfl) t h m3 W k (fun W m' k _ => trule_any t h m' W k))
  rw [q4] at C4
  simp only [] at C4
  rcases q5 : numM 1 m4 with ⟨n5, m5⟩
  have hd5 := numM_bound 1 m4 hb4 (by decide)
  have hb5 := numM_bytes 1 m4 hb4
  rw [q5] at hd5 hb5
  simp only [] at hd5 hb5
  have C5 := Aside0.mk (fun (t h : Nat) (W : World) (k : TK W t h (m4)) => tnum_any t h m4 1 (by decide) (by decide) W k)
  rw [q5] at C5
  simp only [] at C5
  rcases q6 : numM 255 m5 with ⟨n6, m6⟩
  have hd6 := numM_bound 255 m5 hb5 (by decide)
  have hb6 := numM_bytes 255 m5 hb5
  rw [q6] at hd6 hb6
  simp only [] at hd6 hb6
  have C6 := Aside0.mk (fun (t h : Nat) (W : World) (k : TK W t h (m5)) => tnum_any t h m5 255 (by decide) (by decide) W k)
  rw [q6] at C6
  simp only [] at C6
  rcases q7 : numM wideW m6 with ⟨n7, m7⟩
  have hd7 := numM_bound wideW m6 hb6 (by decide)
  have hb7 := numM_bytes wideW m6 hb6
  rw [q7] at hd7 hb7
  simp only [] at hd7 hb7
  have C7 := Aside0.mk (fun (t h : Nat) (W : World) (k : TK W t h (m6)) => tnum_any t h m6 wideW (by decide) (by decide) W k)
  rw [q7] at C7
  simp only [] at C7
  unfold wideW at C7
  rcases q8 : listM (numM 255) m7 with ⟨n8, m8⟩
  have hb8 := listM_bytes (fun m hm => numM_bytes 255 m hm) m7 hb7
  rw [q8] at hb8
  simp only [] at hb8
  have C8 := Aside0.mk (fun (t h q : Nat) (W : World) (hq : W.heap[q]? = some (.cells #[.pointer (some ⟨t, 0, none⟩)] 73 (0, 0))) (n1 : q ≠ t) (n2 : q ≠ h) (k : TK W t h (m7)) => listI_any 44 #[] #[.pointer (some ⟨q, 0, none⟩)] (numM 255) (enters' Try.func44 (by kernel_rfl) rfl) t h m7 W k (clo255_any t h q W hq n1 n2))
  rw [q8] at C8
  simp only [] at C8
  rcases q9 : numM 255 m8 with ⟨n9, m9⟩
  have hd9 := numM_bound 255 m8 hb8 (by decide)
  have hb9 := numM_bytes 255 m8 hb8
  rw [q9] at hd9 hb9
  simp only [] at hd9 hb9
  have C9 := Aside0.mk (fun (t h : Nat) (W : World) (k : TK W t h (m8)) => tnum_any t h m8 255 (by decide) (by decide) W k)
  rw [q9] at C9
  simp only [] at C9
  rcases q10 : numM 255 m9 with ⟨n10, m10⟩
  have hd10 := numM_bound 255 m9 hb9 (by decide)
  have hb10 := numM_bytes 255 m9 hb9
  rw [q10] at hd10 hb10
  simp only [] at hd10 hb10
  have C10 := Aside0.mk (fun (t h : Nat) (W : World) (k : TK W t h (m9)) => tnum_any t h m9 255 (by decide) (by decide) W k)
  rw [q10] at C10
  simp only [] at C10
  rcases q11 : numM 255 m10 with ⟨n11, m11⟩
  have hd11 := numM_bound 255 m10 hb10 (by decide)
  have hb11 := numM_bytes 255 m10 hb10
  rw [q11] at hd11 hb11
  simp only [] at hd11 hb11
  have C11 := Aside0.mk (fun (t h : Nat) (W : World) (k : TK W t h (m10)) => tnum_any t h m10 255 (by decide) (by decide) W k)
  rw [q11] at C11
  simp only [] at C11
  have HD : readM l = (⟨n1, n2, n3, n4, n5 == 1, n6, n7, n8, n9, n10, n11⟩, m11) := by unfold readM; simp only [q1, q2, q3, q4, q5, q6, q7, q8, q9, q10, q11]
  have e7 : IntKind.u32.wrap n7 = n7 := by have : n7 ≤ 4294967295 := hd7.2; have := hd7.1; simp [IntKind.wrap, IntKind.bits, IntKind.signed]; omega
  have HO := Aside0.mk (show readOut l = if m11.bad = true ∨ 0 < m11.rest.length then (zRs, 171) else (⟨n1, n2, n3, n4, n5 == 1, n6, n7, n8, n9, n10, n11⟩, 0) from by unfold readOut; rw [HD])
  generalize readOut l = OUT at *
  obtain ⟨h5, hh5⟩ : ∃ b, (n5 == (1 : Int)) = b := ⟨_, rfl⟩
  rw [hh5] at HO
  clear HD hb0 hb1 hb2 hb3 hb4 hb5 hb6 hb7 hb8 hb9 hb10 hb11 q1 q2 q3 q4 q5 q6 q7 q8 q9 q10 q11 hd1 hd2 hd5 hd6 hd7 hd9 hd10 hd11
  have hC0 := Aside0.mk hC
  clear hC
  go_enter Try.func16, Try.ntmps16
  have hbn := Aside0.mk ((Below.refl w.heap.size w).alloc (Nat.le_refl _) (.cells #[.int .i64 0, .int .i64 0, .slice none 0 0, .slice none 0 0, .bool false, .int .i64 0, .int .u32 0, .slice none 0 0, .int .i64 0, .int .i64 0, .int .i64 0] 50))
  have hbl := Aside0.mk (blk_new w (.cells #[.int .i64 0, .int .i64 0, .slice none 0 0, .slice none 0 0, .bool false, .int .i64 0, .int .u32 0, .slice none 0 0, .int .i64 0, .int .i64 0, .int .i64 0] 50))
  try dsimp only
  repeat ((fail_if_success (show Code.wp _ (Code.seq (Code.region 1 _ _) _) _ _ _)); (first | go_values | go_skip | go_guarded | go_step | go_upon | go_back))
  have hC1 := Aside0.mk (Kd.C_below hC0.out ((Below.refl w.heap.size w).alloc (Nat.le_refl _) (.cells #[.int .i64 0, .int .i64 0, .slice none 0 0, .slice none 0 0, .bool false, .int .i64 0, .int .u32 0, .slice none 0 0, .int .i64 0, .int .i64 0, .int .i64 0] 50)))
  have hs := Aside0.mk (show w.heap.size < (w.alloc (.cells #[.int .i64 0, .int .i64 0, .slice none 0 0, .slice none 0 0, .bool false, .int .i64 0, .int .u32 0, .slice none 0 0, .int .i64 0, .int .i64 0, .int .i64 0] 50)).heap.size from by simp)
  clear hC0
  generalize (w.alloc (.cells #[.int .i64 0, .int .i64 0, .slice none 0 0, .slice none 0 0, .bool false, .int .i64 0, .int .u32 0, .slice none 0 0, .int .i64 0, .int .i64 0, .int .i64 0] 50)) = V0 at *
  go_wp2_with fail
  refine (open_any A c l V0 hC1.out hc hl).mono ?_
  rintro e V1 ⟨h, rfl, hrd, hgh, hgl, hb⟩
  have hsz := hb.size
  have s0 := hs.out
  have hb1 := Aside0.mk (hbn.out.trans (hb.mono (Nat.le_of_lt s0)))
  have hx0 := Aside0.mk (blk_below hbl.out hb)
  clear hC1 hb hbn hbl
  try dsimp only
  repeat ((fail_if_success (show Code.wp _ (Code.seq (Code.region 2 _ _) _) _ _ _)); (first | go_values | go_skip | go_guarded | go_step | go_upon | go_back))
  have hbm := ((Below.refl V1.heap.size V1).alloc (Nat.le_refl _) (.cells #[.pointer (some ⟨h, 0, none⟩), .bool false] 77)).alloc (by simp) (.cells #[.pointer (some ⟨V1.heap.size, 0, none⟩)] 73)
  have hbq := (Below.refl (V1.alloc (.cells #[.pointer (some ⟨h, 0, none⟩), .bool false] 77)).heap.size (V1.alloc (.cells #[.pointer (some ⟨h, 0, none⟩), .bool false] 77))).alloc (Nat.le_refl _) (.cells #[.pointer (some ⟨V1.heap.size, 0, none⟩)] 73)
  have hsv : (V1.alloc (.cells #[.pointer (some ⟨h, 0, none⟩), .bool false] 77)).heap.size = V1.heap.size + 1 := by simp
  have T0 := Aside0.mk (show TK ((V1.alloc (.cells #[.pointer (some ⟨h, 0, none⟩), .bool false] 77)).alloc (.cells #[.pointer (some ⟨V1.heap.size, 0, none⟩)] 73)) V1.heap.size h ⟨l, false⟩ from ⟨blk_below (blk_new V1 _) hbq, hrd.below hbm, hby⟩)
  have F0 := Aside0.mk (show Fx w ((V1.alloc (.cells #[.pointer (some ⟨h, 0, none⟩), .bool false] 77)).alloc (.cells #[.pointer (some ⟨V1.heap.size, 0, none⟩)] 73)) V1.heap.size h (V1.heap.size + 1) from ⟨⟨blk_below hx0.out hbm, Nat.le_refl _, rfl, by omega, by omega⟩, ⟨by have := blk_new (V1.alloc (.cells #[.pointer (some ⟨h, 0, none⟩), .bool false] 77)) (.cells #[.pointer (some ⟨V1.heap.size, 0, none⟩)] 73); rw [hsv] at this; exact this, by omega, rfl, by omega, by omega⟩, Keep2.of (hb1.out.trans (hbm.mono (by omega)))⟩)
  have HLT := Aside0.mk (show w.heap.size ≤ V1.heap.size ∧ w.heap.size ≤ h from by omega)
  have NEQ := Aside0.mk (show w.heap.size ≠ V1.heap.size + 1 from by omega)
  have hsv2 := Aside0.mk (show V1.heap.size + 1 < ((V1.alloc (.cells #[.pointer (some ⟨h, 0, none⟩), .bool false] 77)).alloc (.cells #[.pointer (some ⟨V1.heap.size, 0, none⟩)] 73)).heap.size from by simp)
  clear hbm hbq hx0 hb1 hs s0 hsz hgl hgh hrd hby hsv
  generalize ((V1.alloc (.cells #[.pointer (some ⟨h, 0, none⟩), .bool false] 77)).alloc (.cells #[.pointer (some ⟨V1.heap.size, 0, none⟩)] 73)) = W0 at *
  generalize V1.heap.size + 1 = q at *
  generalize V1.heap.size = t at *
  have z0 := blk_cell F0.out.Q.blk 0
  have HQ0 := Aside0.mk z0
  have T0d := Aside0.mk (show TK W0.drew t h ⟨l, false⟩ from T0.out.below (below_drew (Below.refl _ _)))
  have F0d := Aside0.mk (show Fx w W0.drew t h q from F0.out.below (below_drew (Below.refl _ _)))
  have HL0 := Aside0.mk (show t < W0.heap.size ∧ h < W0.heap.size ∧ q < W0.heap.size ∧ w.heap.size < W0.heap.size from ⟨T0.out.lt.1, T0.out.lt.2, blk_lt F0.out.Q.blk, blk_lt F0.out.X.blk⟩)
  go_wp2_with fail
  go_cut [5] from 7 (fun v5 W => ∃ b1, v5 = .pointer (some ⟨b1, 0, none⟩) ∧ Aside0 (Mine w W t h b1 #[.int .i64 n1, .int .i64 n2, .slice none 0 0, .slice none 0 0, .bool false, .int .i64 0, .int .u32 0, .slice none 0 0, .int .i64 0, .int .i64 0, .int .i64 0] 50) ∧ Aside0 (Fx w W t h q) ∧ Aside0 (TK W t h m2) ∧ Aside0 (w.heap.size ≠ b1 ∧ q ≠ b1))
  case first =>
    refine wp_region_held_drew (S := (fun w' => w'.cell? ⟨q, 0, none⟩ = some (.pointer (some ⟨t, 0, none⟩)))) (by kernel_rfl) ?hS0 (fun hHeld => ?_)
    case hS0 => first | assumption | go_keep | exact cell_setRow (Nat.ne_of_lt HL0.out.2.2.1) (by first | assumption | go_keep) | exact cell_setRow (Nat.ne_of_lt (Nat.lt_of_lt_of_le HL0.out.2.2.1 HS1.out)) (by first | assumption | go_keep) | exact cell_setRow (Nat.ne_of_lt (Nat.lt_of_lt_of_le HL0.out.2.2.1 HS2.out)) (by first | assumption | go_keep)
    refine held_take 0 (some 11) (v := ?v0) rfl rfl (by kernel_rfl) (by kernel_rfl) (by kernel_rfl) (fun _ _ _ h => h) (by rfl) ?y0 (by assumption) ?_
    case y0 => ((intro w hSw); (try dsimp only at hSw); go_simp <;> (with_reducible rfl))
    try simp only [Act.put, List.setIfInBounds_toArray, List.set_cons_zero, List.set_cons_succ]
    refine held_take 2 (some 13) (v := ?v2) rfl rfl (by kernel_rfl) (by kernel_rfl) (by kernel_rfl) (fun _ _ _ h => h) (by rfl) ?y2 (by assumption) ?_
    case y2 => ((intro w hSw); (try dsimp only at hSw); go_simp <;> (with_reducible rfl))
    try simp only [Act.put, List.setIfInBounds_toArray, List.set_cons_zero, List.set_cons_succ]
    refine wpAnyH_ready (rs := [1, 5]) (by kernel_rfl) (by simp) ?_
    refine AllReadyH.cons rfl (fun K hK => ?_) (AllReadyH.cons rfl (fun K hK => ?_) AllReadyH.nil)
    · go_simp
      go_at_call 31; (with_reducible refine (C1.out t h _ (by first | exact T0d.out | exact T0d.out.below ((Below.refl _ _).alloc (Nat.le_refl _) _))).mono ?_); rintro e Wa ⟨rfl, ht1, hk1⟩; have HT1 := Aside0.mk ht1; have HK1 := Aside0.mk hk1; have Z1 := SQ F0d.out hk1; have HS1 := Aside0.mk (size_of_keep (n := W0.heap.size) (W := W0.drew) (Nat.le_refl _) (by first | exact .inl rfl | exact .inr ⟨_, rfl⟩) hk1); (try have YA := Aside0.mk (HK1.out.blk (blk_new W0.drew (.cells #[.int .i64 0, .int .i64 0, .slice none 0 0, .slice none 0 0, .bool false, .int .i64 0, .int .u32 0, .slice none 0 0, .int .i64 0, .int .i64 0, .int .i64 0] 50)) (Nat.ne_of_gt HL0.out.1) (Nat.ne_of_gt HL0.out.2.1))); clear ht1 hk1
      refine hK.out _ _ ?hSw1_2 (fun hHeld => ?_)
      case hSw1_2 => first | assumption | go_keep | exact cell_setRow (Nat.ne_of_lt HL0.out.2.2.1) (by first | assumption | go_keep) | exact cell_setRow (Nat.ne_of_lt (Nat.lt_of_lt_of_le HL0.out.2.2.1 HS1.out)) (by first | assumption | go_keep) | exact cell_setRow (Nat.ne_of_lt (Nat.lt_of_lt_of_le HL0.out.2.2.1 HS2.out)) (by first | assumption | go_keep)
      clear hK K
      try simp only [Act.put, List.setIfInBounds_toArray, List.set_cons_zero, List.set_cons_succ]
      refine wpAnyH_ready (rs := [3, 5]) (by kernel_rfl) (by simp) ?_
      refine AllReadyH.cons rfl (fun K hK => ?_) (AllReadyH.cons rfl (fun K hK => ?_) AllReadyH.nil)
      · go_simp
        go_at_call 31; (with_reducible refine (C2.out t h _ (by first | exact HT1.out | exact HT1.out.below ((Below.refl _ _).alloc (Nat.le_refl _) _))).mono ?_); rintro e Wb ⟨rfl, ht2, hk2⟩; have HT2 := Aside0.mk ht2; have HK2 := Aside0.mk hk2; have Z2 := SQ2 F0d.out HK1.out hk2; have HS2 := Aside0.mk (size_of_keep HS1.out (by first | exact .inl rfl | exact .inr ⟨_, rfl⟩) hk2); (try have YB := Aside0.mk (HK2.out.blk YA.out (Nat.ne_of_gt HL0.out.1) (Nat.ne_of_gt HL0.out.2.1))); (try have YB := Aside0.mk (HK2.out.blk (blk_new Wa (.cells #[.int .i64 0, .int .i64 0, .slice none 0 0, .slice none 0 0, .bool false, .int .i64 0, .int .u32 0, .slice none 0 0, .int .i64 0, .int .i64 0, .int .i64 0] 50)) (Nat.ne_of_gt (Nat.lt_of_lt_of_le HL0.out.1 HS1.out)) (Nat.ne_of_gt (Nat.lt_of_lt_of_le HL0.out.2.1 HS1.out)))); clear ht2 hk2
        refine hK.out _ _ ?hSw2_4 (fun hHeld => ?_)
        case hSw2_4 => first | assumption | go_keep | exact cell_setRow (Nat.ne_of_lt HL0.out.2.2.1) (by first | assumption | go_keep) | exact cell_setRow (Nat.ne_of_lt (Nat.lt_of_lt_of_le HL0.out.2.2.1 HS1.out)) (by first | assumption | go_keep) | exact cell_setRow (Nat.ne_of_lt (Nat.lt_of_lt_of_le HL0.out.2.2.1 HS2.out)) (by first | assumption | go_keep)
        clear hK K
        try simp only [Act.put, List.setIfInBounds_toArray, List.set_cons_zero, List.set_cons_succ]
        refine held_take 4 (some 15) (v := ?vw2_4) rfl rfl (by kernel_rfl) (by kernel_rfl) (by kernel_rfl) (fun _ _ _ h => h) (by rfl) ?yw2_4 (by assumption) ?_
        case yw2_4 => ((intro w hSw); (try dsimp only at hSw); go_simp <;> (with_reducible rfl))
        try simp only [Act.put, List.setIfInBounds_toArray, List.set_cons_zero, List.set_cons_succ]
        refine wpAnyH_ready (rs := [5]) (by kernel_rfl) (by simp) ?_
        refine AllReadyH.cons rfl (fun K hK => ?_) AllReadyH.nil
        go_simp
        refine hK.out _ _ ?hSw2_6 (fun hHeld => ?_)
        case hSw2_6 => first | assumption | go_keep | exact cell_setRow (Nat.ne_of_lt HL0.out.2.2.1) (by first | assumption | go_keep) | exact cell_setRow (Nat.ne_of_lt (Nat.lt_of_lt_of_le HL0.out.2.2.1 HS1.out)) (by first | assumption | go_keep) | exact cell_setRow (Nat.ne_of_lt (Nat.lt_of_lt_of_le HL0.out.2.2.1 HS2.out)) (by first | assumption | go_keep)
        clear hK K
        try simp only [Act.put, List.setIfInBounds_toArray, List.set_cons_zero, List.set_cons_succ]
        refine wpAnyH_ready (rs := [6]) (by kernel_rfl) (by simp) ?_
        refine AllReadyH.cons rfl (fun K hK => ?_) AllReadyH.nil
        refine wp_store_row_step (c := #[.int .i64 0, .int .i64 0, .slice none 0 0, .slice none 0 0, .bool false, .int .i64 0, .int .u32 0, .slice none 0 0, .int .i64 0, .int .i64 0, .int .i64 0]) (c' := #[.int .i64 n1, .int .i64 n2, .slice none 0 0, .slice none 0 0, .bool false, .int .i64 0, .int .u32 0, .slice none 0 0, .int .i64 0, .int .i64 0, .int .i64 0]) (ty := 50) rfl ?hgb rfl rfl rfl rfl (by kernel_rfl) rfl (by simp [Value.oneCell']) ?_
        case hgb => first | exact YB.out | exact blk_new _ _
        refine hK.out _ _ ?hSw2_7 (fun hHeld => ?_)
        case hSw2_7 => first | assumption | go_keep | exact cell_setRow (Nat.ne_of_lt HL0.out.2.2.1) (by first | assumption | go_keep) | exact cell_setRow (Nat.ne_of_lt (Nat.lt_of_lt_of_le HL0.out.2.2.1 HS1.out)) (by first | assumption | go_keep) | exact cell_setRow (Nat.ne_of_lt (Nat.lt_of_lt_of_le HL0.out.2.2.1 HS2.out)) (by first | assumption | go_keep)
        clear hK K
        try simp only [Act.put, List.setIfInBounds_toArray, List.set_cons_zero, List.set_cons_succ]
        refine wpAnyH_done (by kernel_rfl) ?_ _
        go_wp2_with fail
        go_meet
        case rel =>
          refine open_end1 (s := W0.heap.size) (Z := #[.int .i64 0, .int .i64 0, .slice none 0 0, .slice none 0 0, .bool false, .int .i64 0, .int .u32 0, .slice none 0 0, .int .i64 0, .int .i64 0, .int .i64 0]) HL0.out ?_ rfl rfl ?_ ?_ ?_
          · first | exact HS2.out | exact HS1.out | exact Nat.le_refl _
          · first | exact ((F0d.out.keep HK1.out).keep HK2.out).below ((Below.refl _ _).alloc (Nat.le_refl _) _) | exact ((F0d.out.keep HK1.out).below ((Below.refl _ _).alloc (Nat.le_refl _) _)).keep HK2.out | exact ((F0d.out.below ((Below.refl _ _).alloc (Nat.le_refl _) _)).keep HK1.out).keep HK2.out
          · first | exact HT2.out | exact HT2.out.below ((Below.refl _ _).alloc (Nat.le_refl _) _)
          · first | exact YB.out | exact blk_new _ _
      · go_simp
        refine hK.out _ _ ?hSw3_6 (fun hHeld => ?_)
        case hSw3_6 => first | assumption | go_keep | exact cell_setRow (Nat.ne_of_lt HL0.out.2.2.1) (by first | assumption | go_keep) | exact cell_setRow (Nat.ne_of_lt (Nat.lt_of_lt_of_le HL0.out.2.2.1 HS1.out)) (by first | assumption | go_keep) | exact cell_setRow (Nat.ne_of_lt (Nat.lt_of_lt_of_le HL0.out.2.2.1 HS2.out)) (by first | assumption | go_keep)
        clear hK K
        try simp only [Act.put, List.setIfInBounds_toArray, List.set_cons_zero, List.set_cons_succ]
        refine wpAnyH_ready (rs := [3]) (by kernel_rfl) (by simp) ?_
        refine AllReadyH.cons rfl (fun K hK => ?_) AllReadyH.nil
        go_simp
        go_at_call 31; (with_reducible refine (C2.out t h _ (by first | exact HT1.out | exact HT1.out.below ((Below.refl _ _).alloc (Nat.le_refl _) _))).mono ?_); rintro e Wb ⟨rfl, ht2, hk2⟩; have HT2 := Aside0.mk ht2; have HK2 := Aside0.mk hk2; have Z2 := SQ2 F0d.out HK1.out hk2; have HS2 := Aside0.mk (size_of_keep HS1.out (by first | exact .inl rfl | exact .inr ⟨_, rfl⟩) hk2); (try have YB := Aside0.mk (HK2.out.blk YA.out (Nat.ne_of_gt HL0.out.1) (Nat.ne_of_gt HL0.out.2.1))); (try have YB := Aside0.mk (HK2.out.blk (blk_new Wa (.cells #[.int .i64 0, .int .i64 0, .slice none 0 0, .slice none 0 0, .bool false, .int .i64 0, .int .u32 0, .slice none 0 0, .int .i64 0, .int .i64 0, .int .i64 0] 50)) (Nat.ne_of_gt (Nat.lt_of_lt_of_le HL0.out.1 HS1.out)) (Nat.ne_of_gt (Nat.lt_of_lt_of_le HL0.out.2.1 HS1.out)))); clear ht2 hk2
        refine hK.out _ _ ?hSw3_4 (fun hHeld => ?_)
        case hSw3_4 => first | assumption | go_keep | exact cell_setRow (Nat.ne_of_lt HL0.out.2.2.1) (by first | assumption | go_keep) | exact cell_setRow (Nat.ne_of_lt (Nat.lt_of_lt_of_le HL0.out.2.2.1 HS1.out)) (by first | assumption | go_keep) | exact cell_setRow (Nat.ne_of_lt (Nat.lt_of_lt_of_le HL0.out.2.2.1 HS2.out)) (by first | assumption | go_keep)
        clear hK K
        try simp only [Act.put, List.setIfInBounds_toArray, List.set_cons_zero, List.set_cons_succ]
        refine held_take 4 (some 15) (v := ?vw3_4) rfl rfl (by kernel_rfl) (by kernel_rfl) (by kernel_rfl) (fun _ _ _ h => h) (by rfl) ?yw3_4 (by assumption) ?_
        case yw3_4 => ((intro w hSw); (try dsimp only at hSw); go_simp <;> (with_reducible rfl))
        try simp only [Act.put, List.setIfInBounds_toArray, List.set_cons_zero, List.set_cons_succ]
        refine wpAnyH_ready (rs := [6]) (by kernel_rfl) (by simp) ?_
        refine AllReadyH.cons rfl (fun K hK => ?_) AllReadyH.nil
        refine wp_store_row_step (c := #[.int .i64 0, .int .i64 0, .slice none 0 0, .slice none 0 0, .bool false, .int .i64 0, .int .u32 0, .slice none 0 0, .int .i64 0, .int .i64 0, .int .i64 0]) (c' := #[.int .i64 n1, .int .i64 n2, .slice none 0 0, .slice none 0 0, .bool false, .int .i64 0, .int .u32 0, .slice none 0 0, .int .i64 0, .int .i64 0, .int .i64 0]) (ty := 50) rfl ?hgb rfl rfl rfl rfl (by kernel_rfl) rfl (by simp [Value.oneCell']) ?_
        case hgb => first | exact YB.out | exact blk_new _ _
        refine hK.out _ _ ?hSw3_7 (fun hHeld => ?_)
        case hSw3_7 => first | assumption | go_keep | exact cell_setRow (Nat.ne_of_lt HL0.out.2.2.1) (by first | assumption | go_keep) | exact cell_setRow (Nat.ne_of_lt (Nat.lt_of_lt_of_le HL0.out.2.2.1 HS1.out)) (by first | assumption | go_keep) | exact cell_setRow (Nat.ne_of_lt (Nat.lt_of_lt_of_le HL0.out.2.2.1 HS2.out)) (by first | assumption | go_keep)
        clear hK K
        try simp only [Act.put, List.setIfInBounds_toArray, List.set_cons_zero, List.set_cons_succ]
        refine wpAnyH_done (by kernel_rfl) ?_ _
        go_wp2_with fail
        go_meet
        case rel =>
          refine open_end1 (s := W0.heap.size) (Z := #[.int .i64 0, .int .i64 0, .slice none 0 0, .slice none 0 0, .bool false, .int .i64 0, .int .u32 0, .slice none 0 0, .int .i64 0, .int .i64 0, .int .i64 0]) HL0.out ?_ rfl rfl ?_ ?_ ?_
          · first | exact HS2.out | exact HS1.out | exact Nat.le_refl _
          · first | exact ((F0d.out.keep HK1.out).keep HK2.out).below ((Below.refl _ _).alloc (Nat.le_refl _) _) | exact ((F0d.out.keep HK1.out).below ((Below.refl _ _).alloc (Nat.le_refl _) _)).keep HK2.out | exact ((F0d.out.below ((Below.refl _ _).alloc (Nat.le_refl _) _)).keep HK1.out).keep HK2.out
          · first | exact HT2.out | exact HT2.out.below ((Below.refl _ _).alloc (Nat.le_refl _) _)
          · first | exact YB.out | exact blk_new _ _
    · go_simp
      refine hK.out _ _ ?hSw4_6 (fun hHeld => ?_)
      case hSw4_6 => first | assumption | go_keep | exact cell_setRow (Nat.ne_of_lt HL0.out.2.2.1) (by first | assumption | go_keep) | exact cell_setRow (Nat.ne_of_lt (Nat.lt_of_lt_of_le HL0.out.2.2.1 HS1.out)) (by first | assumption | go_keep) | exact cell_setRow (Nat.ne_of_lt (Nat.lt_of_lt_of_le HL0.out.2.2.1 HS2.out)) (by first | assumption | go_keep)
      clear hK K
      try simp only [Act.put, List.setIfInBounds_toArray, List.set_cons_zero, List.set_cons_succ]
      refine wpAnyH_ready (rs := [1]) (by kernel_rfl) (by simp) ?_
      refine AllReadyH.cons rfl (fun K hK => ?_) AllReadyH.nil
      go_simp
      go_at_call 31; (with_reducible refine (C1.out t h _ (by first | exact T0d.out | exact T0d.out.below ((Below.refl _ _).alloc (Nat.le_refl _) _))).mono ?_); rintro e Wa ⟨rfl, ht1, hk1⟩; have HT1 := Aside0.mk ht1; have HK1 := Aside0.mk hk1; have Z1 := SQ F0d.out hk1; have HS1 := Aside0.mk (size_of_keep (n := W0.heap.size) (W := W0.drew) (Nat.le_refl _) (by first | exact .inl rfl | exact .inr ⟨_, rfl⟩) hk1); (try have YA := Aside0.mk (HK1.out.blk (blk_new W0.drew (.cells #[.int .i64 0, .int .i64 0, .slice none 0 0, .slice none 0 0, .bool false, .int .i64 0, .int .u32 0, .slice none 0 0, .int .i64 0, .int .i64 0, .int .i64 0] 50)) (Nat.ne_of_gt HL0.out.1) (Nat.ne_of_gt HL0.out.2.1))); clear ht1 hk1
      refine hK.out _ _ ?hSw4_2 (fun hHeld => ?_)
      case hSw4_2 => first | assumption | go_keep | exact cell_setRow (Nat.ne_of_lt HL0.out.2.2.1) (by first | assumption | go_keep) | exact cell_setRow (Nat.ne_of_lt (Nat.lt_of_lt_of_le HL0.out.2.2.1 HS1.out)) (by first | assumption | go_keep) | exact cell_setRow (Nat.ne_of_lt (Nat.lt_of_lt_of_le HL0.out.2.2.1 HS2.out)) (by first | assumption | go_keep)
      clear hK K
      try simp only [Act.put, List.setIfInBounds_toArray, List.set_cons_zero, List.set_cons_succ]
      refine wpAnyH_ready (rs := [3]) (by kernel_rfl) (by simp) ?_
      refine AllReadyH.cons rfl (fun K hK => ?_) AllReadyH.nil
      go_simp
      go_at_call 31; (with_reducible refine (C2.out t h _ (by first | exact HT1.out | exact HT1.out.below ((Below.refl _ _).alloc (Nat.le_refl _) _))).mono ?_); rintro e Wb ⟨rfl, ht2, hk2⟩; have HT2 := Aside0.mk ht2; have HK2 := Aside0.mk hk2; have Z2 := SQ2 F0d.out HK1.out hk2; have HS2 := Aside0.mk (size_of_keep HS1.out (by first | exact .inl rfl | exact .inr ⟨_, rfl⟩) hk2); (try have YB := Aside0.mk (HK2.out.blk YA.out (Nat.ne_of_gt HL0.out.1) (Nat.ne_of_gt HL0.out.2.1))); (try have YB := Aside0.mk (HK2.out.blk (blk_new Wa (.cells #[.int .i64 0, .int .i64 0, .slice none 0 0, .slice none 0 0, .bool false, .int .i64 0, .int .u32 0, .slice none 0 0, .int .i64 0, .int .i64 0, .int .i64 0] 50)) (Nat.ne_of_gt (Nat.lt_of_lt_of_le HL0.out.1 HS1.out)) (Nat.ne_of_gt (Nat.lt_of_lt_of_le HL0.out.2.1 HS1.out)))); clear ht2 hk2
      refine hK.out _ _ ?hSw4_4 (fun hHeld => ?_)
      case hSw4_4 => first | assumption | go_keep | exact cell_setRow (Nat.ne_of_lt HL0.out.2.2.1) (by first | assumption | go_keep) | exact cell_setRow (Nat.ne_of_lt (Nat.lt_of_lt_of_le HL0.out.2.2.1 HS1.out)) (by first | assumption | go_keep) | exact cell_setRow (Nat.ne_of_lt (Nat.lt_of_lt_of_le HL0.out.2.2.1 HS2.out)) (by first | assumption | go_keep)
      clear hK K
      try simp only [Act.put, List.setIfInBounds_toArray, List.set_cons_zero, List.set_cons_succ]
      refine held_take 4 (some 15) (v := ?vw4_4) rfl rfl (by kernel_rfl) (by kernel_rfl) (by kernel_rfl) (fun _ _ _ h => h) (by rfl) ?yw4_4 (by assumption) ?_
      case yw4_4 => ((intro w hSw); (try dsimp only at hSw); go_simp <;> (with_reducible rfl))
      try simp only [Act.put, List.setIfInBounds_toArray, List.set_cons_zero, List.set_cons_succ]
      refine wpAnyH_ready (rs := [6]) (by kernel_rfl) (by simp) ?_
      refine AllReadyH.cons rfl (fun K hK => ?_) AllReadyH.nil
      refine wp_store_row_step (c := #[.int .i64 0, .int .i64 0, .slice none 0 0, .slice none 0 0, .bool false, .int .i64 0, .int .u32 0, .slice none 0 0, .int .i64 0, .int .i64 0, .int .i64 0]) (c' := #[.int .i64 n1, .int .i64 n2, .slice none 0 0, .slice none 0 0, .bool false, .int .i64 0, .int .u32 0, .slice none 0 0, .int .i64 0, .int .i64 0, .int .i64 0]) (ty := 50) rfl ?hgb rfl rfl rfl rfl (by kernel_rfl) rfl (by simp [Value.oneCell']) ?_
      case hgb => first | exact YB.out | exact blk_new _ _
      refine hK.out _ _ ?hSw4_7 (fun hHeld => ?_)
      case hSw4_7 => first | assumption | go_keep | exact cell_setRow (Nat.ne_of_lt HL0.out.2.2.1) (by first | assumption | go_keep) | exact cell_setRow (Nat.ne_of_lt (Nat.lt_of_lt_of_le HL0.out.2.2.1 HS1.out)) (by first | assumption | go_keep) | exact cell_setRow (Nat.ne_of_lt (Nat.lt_of_lt_of_le HL0.out.2.2.1 HS2.out)) (by first | assumption | go_keep)
      clear hK K
      try simp only [Act.put, List.setIfInBounds_toArray, List.set_cons_zero, List.set_cons_succ]
      refine wpAnyH_done (by kernel_rfl) ?_ _
      go_wp2_with fail
      go_meet
      case rel =>
        refine open_end1 (s := W0.heap.size) (Z := #[.int .i64 0, .int .i64 0, .slice none 0 0, .slice none 0 0, .bool false, .int .i64 0, .int .u32 0, .slice none 0 0, .int .i64 0, .int .i64 0, .int .i64 0]) HL0.out ?_ rfl rfl ?_ ?_ ?_
        · first | exact HS2.out | exact HS1.out | exact Nat.le_refl _
        · first | exact ((F0d.out.keep HK1.out).keep HK2.out).below ((Below.refl _ _).alloc (Nat.le_refl _) _) | exact ((F0d.out.keep HK1.out).below ((Below.refl _ _).alloc (Nat.le_refl _) _)).keep HK2.out | exact ((F0d.out.below ((Below.refl _ _).alloc (Nat.le_refl _) _)).keep HK1.out).keep HK2.out
        · first | exact HT2.out | exact HT2.out.below ((Below.refl _ _).alloc (Nat.le_refl _) _)
        · first | exact YB.out | exact blk_new _ _
  case rest =>
  obtain ⟨b1, rfl, Y1, F1, T1, NE⟩ := hcut
  clear z0 HQ0 T0d F0d T0 F0 C1 C2
  rename_i wc _
  generalize wc = W1 at *
  try dsimp only
  repeat ((fail_if_success (show Code.wp _ (Code.seq (Code.region 3 _ _) _) _ _ _)); (first | go_values | go_skip | go_guarded | go_step | go_upon | go_back))
  have z1 := blk_cell F1.out.Q.blk 0
  go_wp2_with fail
  refine (C3.out t h q W1 F1.out.Q.blk F1.out.Q.n1 F1.out.Q.n2 T1.out).mono ?_
  rintro e W2 ⟨v3, rfl, hv3, ht, hk⟩
  have hlt3 := Aside0.mk (show t < W1.heap.size ∧ h < W1.heap.size ∧ b1 < W1.heap.size ∧ w.heap.size < W1.heap.size from ⟨T1.out.lt.1, T1.out.lt.2, blk_lt Y1.out.blk, blk_lt F1.out.X.blk⟩)
  have F2 := Aside0.mk (F1.out.keep hk)
  have T2 := Aside0.mk ht
  have Y2 := Aside0.mk (Y1.out.keep hk)
  have U3_2 := Aside0.mk hv3
  clear hv3
  generalize W1.heap.size = B3 at *
  obtain ⟨A3, c3, rfl⟩ := Kd.R_slice U3_2.out
  clear ht hk C3 T1 F1 Y1 z1
  have z2 := blk_cell F2.out.Q.blk 0
  have f2 := blk_frozen Y2.out.blk 2
  have g2 := blk_cell Y2.out.blk 2
  simp only [List.getElem?_toArray, List.getElem?_cons_zero, List.getElem?_cons_succ] at g2
  try dsimp only
  repeat ((fail_if_success (show Code.wp _ (Code.seq (Code.region 4 _ _) _) _ _ _)); (first | go_values | go_skip | go_guarded | go_step | go_upon | go_back))
  have F3 := Aside0.mk (F2.out.far Y2.out NE.out.1 NE.out.2 2 (.slice A3 n3.length c3))
  have T3 := Aside0.mk (T2.out.far Y2.out 2 (.slice A3 n3.length c3))
  have Y3 := Aside0.mk (Y2.out.put 2 (.slice A3 n3.length c3) rfl #[.int .i64 n1, .int .i64 n2, .slice A3 n3.length c3, .slice none 0 0, .bool false, .int .i64 0, .int .u32 0, .slice none 0 0, .int .i64 0, .int .i64 0, .int .i64 0] rfl rfl)
  have U3_3 := Aside0.mk (R_far2 U3_2.out hlt3.out.2.2.1 2 (.slice A3 n3.length c3))
  clear T2 F2 Y2 z2 f2 g2 U3_2
  generalize W2.setCell ⟨b1, 2, none⟩ (.slice A3 n3.length c3) = W3 at *
  have z3 := blk_cell F3.out.Q.blk 0
  go_wp2_with fail
  refine (C4.out t h W3 T3.out).mono ?_
  rintro e W4 ⟨v4, rfl, hv4, ht, hk⟩
  have hlt4 := Aside0.mk (show t < W3.heap.size ∧ h < W3.heap.size ∧ b1 < W3.heap.size ∧ w.heap.size < W3.heap.size from ⟨T3.out.lt.1, T3.out.lt.2, blk_lt Y3.out.blk, blk_lt F3.out.X.blk⟩)
  have F4 := Aside0.mk (F3.out.keep hk)
  have T4 := Aside0.mk ht
  have Y4 := Aside0.mk (Y3.out.keep hk)
  have U3_4 := Aside0.mk (R_keep2 U3_3.out hk hlt3.out.1 hlt3.out.2.1)
  have U4_4 := Aside0.mk hv4
  clear hv4
  generalize W3.heap.size = B4 at *
  obtain ⟨A4, c4, rfl⟩ := Kd.R_slice U4_4.out
  clear ht hk C4 T3 F3 Y3 U3_3 z3
  have z4 := blk_cell F4.out.Q.blk 0
  have f4 := blk_frozen Y4.out.blk 3
  have g4 := blk_cell Y4.out.blk 3
  simp only [List.getElem?_toArray, List.getElem?_cons_zero, List.getElem?_cons_succ] at g4
  try dsimp only
  repeat ((fail_if_success (show Code.wp _ (Code.seq (Code.region 5 _ _) _) _ _ _)); (first | go_values | go_skip | go_guarded | go_step | go_upon | go_back))
  have F5 := Aside0.mk (F4.out.far Y4.out NE.out.1 NE.out.2 3 (.slice A4 n4.length c4))
  have T5 := Aside0.mk (T4.out.far Y4.out 3 (.slice A4 n4.length c4))
  have Y5 := Aside0.mk (Y4.out.put 3 (.slice A4 n4.length c4) rfl #[.int .i64 n1, .int .i64 n2, .slice A3 n3.length c3, .slice A4 n4.length c4, .bool false, .int .i64 0, .int .u32 0, .slice none 0 0, .int .i64 0, .int .i64 0, .int .i64 0] rfl rfl)
  have U3_5 := Aside0.mk (R_far2 U3_4.out hlt3.out.2.2.1 3 (.slice A4 n4.length c4))
  have U4_5 := Aside0.mk (R_far2 U4_4.out hlt4.out.2.2.1 3 (.slice A4 n4.length c4))
  clear T4 F4 Y4 z4 f4 g4 U3_4 U4_4
  generalize W4.setCell ⟨b1, 3, none⟩ (.slice A4 n4.length c4) = W5 at *
  have z5 := blk_cell F5.out.Q.blk 0
  go_wp2_with fail
  refine (C5.out t h W5 T5.out).mono ?_
  rintro e W6 ⟨rfl, ht, hk⟩
  have F6 := Aside0.mk (F5.out.keep hk)
  have T6 := Aside0.mk ht
  have Y6 := Aside0.mk (Y5.out.keep hk)
  have U3_6 := Aside0.mk (R_keep2 U3_5.out hk hlt3.out.1 hlt3.out.2.1)
  have U4_6 := Aside0.mk (R_keep2 U4_5.out hk hlt4.out.1 hlt4.out.2.1)
  clear ht hk C5 T5 F5 Y5 U3_5 U4_5 z5
  have z6 := blk_cell F6.out.Q.blk 0
  have f6 := blk_frozen Y6.out.blk 4
  have g6 := blk_cell Y6.out.blk 4
  simp only [List.getElem?_toArray, List.getElem?_cons_zero, List.getElem?_cons_succ] at g6
  try dsimp only
  repeat ((fail_if_success (show Code.wp _ (Code.seq (Code.region 6 _ _) _) _ _ _)); (first | go_values | go_skip | go_guarded | go_step | go_upon | go_back))
  have F7 := Aside0.mk (F6.out.far Y6.out NE.out.1 NE.out.2 4 (.bool h5))
  have T7 := Aside0.mk (T6.out.far Y6.out 4 (.bool h5))
  have Y7 := Aside0.mk (Y6.out.put 4 (.bool h5) rfl #[.int .i64 n1, .int .i64 n2, .slice A3 n3.length c3, .slice A4 n4.length c4, .bool h5, .int .i64 0, .int .u32 0, .slice none 0 0, .int .i64 0, .int .i64 0, .int .i64 0] rfl rfl)
  have U3_7 := Aside0.mk (R_far2 U3_6.out hlt3.out.2.2.1 4 (.bool h5))
  have U4_7 := Aside0.mk (R_far2 U4_6.out hlt4.out.2.2.1 4 (.bool h5))
  clear T6 F6 Y6 z6 f6 g6 U3_6 U4_6
  generalize W6.setCell ⟨b1, 4, none⟩ (.bool h5) = W7 at *
  have z7 := blk_cell F7.out.Q.blk 0
  go_wp2_with fail
  refine (C6.out t h W7 T7.out).mono ?_
  rintro e W8 ⟨rfl, ht, hk⟩
  have F8 := Aside0.mk (F7.out.keep hk)
  have T8 := Aside0.mk ht
  have Y8 := Aside0.mk (Y7.out.keep hk)
  have U3_8 := Aside0.mk (R_keep2 U3_7.out hk hlt3.out.1 hlt3.out.2.1)
  have U4_8 := Aside0.mk (R_keep2 U4_7.out hk hlt4.out.1 hlt4.out.2.1)
  clear ht hk C6 T7 F7 Y7 U3_7 U4_7 z7
  have z8 := blk_cell F8.out.Q.blk 0
  have f8 := blk_frozen Y8.out.blk 5
  have g8 := blk_cell Y8.out.blk 5
  simp only [List.getElem?_toArray, List.getElem?_cons_zero, List.getElem?_cons_succ] at g8
  try dsimp only
  repeat ((fail_if_success (show Code.wp _ (Code.seq (Code.region 7 _ _) _) _ _ _)); (first | go_values | go_skip | go_guarded | go_step | go_upon | go_back))
  have F9 := Aside0.mk (F8.out.far Y8.out NE.out.1 NE.out.2 5 (.int .i64 n6))
  have T9 := Aside0.mk (T8.out.far Y8.out 5 (.int .i64 n6))
  have Y9 := Aside0.mk (Y8.out.put 5 (.int .i64 n6) rfl #[.int .i64 n1, .int .i64 n2, .slice A3 n3.length c3, .slice A4 n4.length c4, .bool h5, .int .i64 n6, .int .u32 0, .slice none 0 0, .int .i64 0, .int .i64 0, .int .i64 0] rfl rfl)
  have U3_9 := Aside0.mk (R_far2 U3_8.out hlt3.out.2.2.1 5 (.int .i64 n6))
  have U4_9 := Aside0.mk (R_far2 U4_8.out hlt4.out.2.2.1 5 (.int .i64 n6))
  clear T8 F8 Y8 z8 f8 g8 U3_8 U4_8
  generalize W8.setCell ⟨b1, 5, none⟩ (.int .i64 n6) = W9 at *
  have z9 := blk_cell F9.out.Q.blk 0
  go_wp2_with fail
  refine (C7.out t h W9 T9.out).mono ?_
  rintro e W10 ⟨rfl, ht, hk⟩
  have F10 := Aside0.mk (F9.out.keep hk)
  have T10 := Aside0.mk ht
  have Y10 := Aside0.mk (Y9.out.keep hk)
  have U3_10 := Aside0.mk (R_keep2 U3_9.out hk hlt3.out.1 hlt3.out.2.1)
  have U4_10 := Aside0.mk (R_keep2 U4_9.out hk hlt4.out.1 hlt4.out.2.1)
  clear ht hk C7 T9 F9 Y9 U3_9 U4_9 z9
  have z10 := blk_cell F10.out.Q.blk 0
  have f10 := blk_frozen Y10.out.blk 6
  have g10 := blk_cell Y10.out.blk 6
  simp only [List.getElem?_toArray, List.getElem?_cons_zero, List.getElem?_cons_succ] at g10
  try dsimp only
  repeat ((fail_if_success (show Code.wp _ (Code.seq (Code.region 8 _ _) _) _ _ _)); (first | go_values | go_skip | go_guarded | go_step | go_upon | go_back))
  have F11 := Aside0.mk (F10.out.far Y10.out NE.out.1 NE.out.2 6 (.int .u32 n7))
  have T11 := Aside0.mk (T10.out.far Y10.out 6 (.int .u32 n7))
  have Y11 := Aside0.mk (Y10.out.put 6 (.int .u32 n7) rfl #[.int .i64 n1, .int .i64 n2, .slice A3 n3.length c3, .slice A4 n4.length c4, .bool h5, .int .i64 n6, .int .u32 n7, .slice none 0 0, .int .i64 0, .int .i64 0, .int .i64 0] rfl rfl)
  have U3_11 := Aside0.mk (R_far2 U3_10.out hlt3.out.2.2.1 6 (.int .u32 n7))
  have U4_11 := Aside0.mk (R_far2 U4_10.out hlt4.out.2.2.1 6 (.int .u32 n7))
  clear T10 F10 Y10 z10 f10 g10 U3_10 U4_10
  generalize W10.setCell ⟨b1, 6, none⟩ (.int .u32 n7) = W11 at *
  have z11 := blk_cell F11.out.Q.blk 0
  try dsimp only
  repeat ((fail_if_success (show Code.wp _ (Code.seq (Code.region 9 _ _) _) _ _ _)); (first | go_values | go_skip | go_guarded | go_step | go_upon | go_back))
  go_wp2_with fail
  refine (C8.out t h q W11 F11.out.Q.blk F11.out.Q.n1 F11.out.Q.n2 T11.out).mono ?_
  rintro e W12 ⟨v8, rfl, hv8, ht, hk⟩
  have hlt8 := Aside0.mk (show t < W11.heap.size ∧ h < W11.heap.size ∧ b1 < W11.heap.size ∧ w.heap.size < W11.heap.size from ⟨T11.out.lt.1, T11.out.lt.2, blk_lt Y11.out.blk, blk_lt F11.out.X.blk⟩)
  have F12 := Aside0.mk (F11.out.keep hk)
  have T12 := Aside0.mk ht
  have Y12 := Aside0.mk (Y11.out.keep hk)
  have U3_12 := Aside0.mk (R_keep2 U3_11.out hk hlt3.out.1 hlt3.out.2.1)
  have U4_12 := Aside0.mk (R_keep2 U4_11.out hk hlt4.out.1 hlt4.out.2.1)
  have HAP := Aside0.mk (show ∀ k, (Value.slice A3 n3.length c3).ownBlock = some k → k < W11.heap.size from fun k hk => Kd.R_lt U3_11.out k hk)
  have U8_12 := Aside0.mk hv8
  clear hv8
  generalize W11.heap.size = B8 at *
  obtain ⟨A8, c8, rfl⟩ := Kd.R_slice U8_12.out
  clear ht hk C8 T11 F11 Y11 U3_11 U4_11 z11
  have z12 := blk_cell F12.out.Q.blk 0
  have f12 := blk_frozen Y12.out.blk 7
  have g12 := blk_cell Y12.out.blk 7
  simp only [List.getElem?_toArray, List.getElem?_cons_zero, List.getElem?_cons_succ] at g12
  try dsimp only
  repeat ((fail_if_success (show Code.wp _ (Code.seq (Code.region 10 _ _) _) _ _ _)); (first | go_values | go_skip | go_guarded | go_step | go_upon | go_back))
  have F13 := Aside0.mk (F12.out.far Y12.out NE.out.1 NE.out.2 7 (.slice A8 n8.length c8))
  have T13 := Aside0.mk (T12.out.far Y12.out 7 (.slice A8 n8.length c8))
  have Y13 := Aside0.mk (Y12.out.put 7 (.slice A8 n8.length c8) rfl #[.int .i64 n1, .int .i64 n2, .slice A3 n3.length c3, .slice A4 n4.length c4, .bool h5, .int .i64 n6, .int .u32 n7, .slice A8 n8.length c8, .int .i64 0, .int .i64 0, .int .i64 0] rfl rfl)
  have U3_13 := Aside0.mk (R_far2 U3_12.out hlt3.out.2.2.1 7 (.slice A8 n8.length c8))
  have U4_13 := Aside0.mk (R_far2 U4_12.out hlt4.out.2.2.1 7 (.slice A8 n8.length c8))
  have U8_13 := Aside0.mk (R_far2 U8_12.out hlt8.out.2.2.1 7 (.slice A8 n8.length c8))
  clear T12 F12 Y12 z12 f12 g12 U3_12 U4_12 U8_12
  generalize W12.setCell ⟨b1, 7, none⟩ (.slice A8 n8.length c8) = W13 at *
  have z13 := blk_cell F13.out.Q.blk 0
  go_wp2_with fail
  refine (C9.out t h W13 T13.out).mono ?_
  rintro e W14 ⟨rfl, ht, hk⟩
  have F14 := Aside0.mk (F13.out.keep hk)
  have T14 := Aside0.mk ht
  have Y14 := Aside0.mk (Y13.out.keep hk)
  have U3_14 := Aside0.mk (R_keep2 U3_13.out hk hlt3.out.1 hlt3.out.2.1)
  have U4_14 := Aside0.mk (R_keep2 U4_13.out hk hlt4.out.1 hlt4.out.2.1)
  have U8_14 := Aside0.mk (R_keep2 U8_13.out hk hlt8.out.1 hlt8.out.2.1)
  clear ht hk C9 T13 F13 Y13 U3_13 U4_13 U8_13 z13
  have z14 := blk_cell F14.out.Q.blk 0
  have f14 := blk_frozen Y14.out.blk 8
  have g14 := blk_cell Y14.out.blk 8
  simp only [List.getElem?_toArray, List.getElem?_cons_zero, List.getElem?_cons_succ] at g14
  try dsimp only
  repeat ((fail_if_success (show Code.wp _ (Code.seq (Code.region 11 _ _) _) _ _ _)); (first | go_values | go_skip | go_guarded | go_step | go_upon | go_back))
  have F15 := Aside0.mk (F14.out.far Y14.out NE.out.1 NE.out.2 8 (.int .i64 n9))
  have T15 := Aside0.mk (T14.out.far Y14.out 8 (.int .i64 n9))
  have Y15 := Aside0.mk (Y14.out.put 8 (.int .i64 n9) rfl #[.int .i64 n1, .int .i64 n2, .slice A3 n3.length c3, .slice A4 n4.length c4, .bool h5, .int .i64 n6, .int .u32 n7, .slice A8 n8.length c8, .int .i64 n9, .int .i64 0, .int .i64 0] rfl rfl)
  have U3_15 := Aside0.mk (R_far2 U3_14.out hlt3.out.2.2.1 8 (.int .i64 n9))
  have U4_15 := Aside0.mk (R_far2 U4_14.out hlt4.out.2.2.1 8 (.int .i64 n9))
  have U8_15 := Aside0.mk (R_far2 U8_14.out hlt8.out.2.2.1 8 (.int .i64 n9))
  clear T14 F14 Y14 z14 f14 g14 U3_14 U4_14 U8_14
  generalize W14.setCell ⟨b1, 8, none⟩ (.int .i64 n9) = W15 at *
  have z15 := blk_cell F15.out.Q.blk 0
  go_wp2_with fail
  refine (C10.out t h W15 T15.out).mono ?_
  rintro e W16 ⟨rfl, ht, hk⟩
  have F16 := Aside0.mk (F15.out.keep hk)
  have T16 := Aside0.mk ht
  have Y16 := Aside0.mk (Y15.out.keep hk)
  have U3_16 := Aside0.mk (R_keep2 U3_15.out hk hlt3.out.1 hlt3.out.2.1)
  have U4_16 := Aside0.mk (R_keep2 U4_15.out hk hlt4.out.1 hlt4.out.2.1)
  have U8_16 := Aside0.mk (R_keep2 U8_15.out hk hlt8.out.1 hlt8.out.2.1)
  clear ht hk C10 T15 F15 Y15 U3_15 U4_15 U8_15 z15
  have z16 := blk_cell F16.out.Q.blk 0
  have f16 := blk_frozen Y16.out.blk 9
  have g16 := blk_cell Y16.out.blk 9
  simp only [List.getElem?_toArray, List.getElem?_cons_zero, List.getElem?_cons_succ] at g16
  try dsimp only
  repeat ((fail_if_success (show Code.wp _ (Code.seq (Code.region 12 _ _) _) _ _ _)); (first | go_values | go_skip | go_guarded | go_step | go_upon | go_back))
  have F17 := Aside0.mk (F16.out.far Y16.out NE.out.1 NE.out.2 9 (.int .i64 n10))
  have T17 := Aside0.mk (T16.out.far Y16.out 9 (.int .i64 n10))
  have Y17 := Aside0.mk (Y16.out.put 9 (.int .i64 n10) rfl #[.int .i64 n1, .int .i64 n2, .slice A3 n3.length c3, .slice A4 n4.length c4, .bool h5, .int .i64 n6, .int .u32 n7, .slice A8 n8.length c8, .int .i64 n9, .int .i64 n10, .int .i64 0] rfl rfl)
  have U3_17 := Aside0.mk (R_far2 U3_16.out hlt3.out.2.2.1 9 (.int .i64 n10))
  have U4_17 := Aside0.mk (R_far2 U4_16.out hlt4.out.2.2.1 9 (.int .i64 n10))
  have U8_17 := Aside0.mk (R_far2 U8_16.out hlt8.out.2.2.1 9 (.int .i64 n10))
  clear T16 F16 Y16 z16 f16 g16 U3_16 U4_16 U8_16
  generalize W16.setCell ⟨b1, 9, none⟩ (.int .i64 n10) = W17 at *
  have z17 := blk_cell F17.out.Q.blk 0
  go_wp2_with fail
  refine (C11.out t h W17 T17.out).mono ?_
  rintro e W18 ⟨rfl, ht, hk⟩
  have F18 := Aside0.mk (F17.out.keep hk)
  have T18 := Aside0.mk ht
  have Y18 := Aside0.mk (Y17.out.keep hk)
  have U3_18 := Aside0.mk (R_keep2 U3_17.out hk hlt3.out.1 hlt3.out.2.1)
  have U4_18 := Aside0.mk (R_keep2 U4_17.out hk hlt4.out.1 hlt4.out.2.1)
  have U8_18 := Aside0.mk (R_keep2 U8_17.out hk hlt8.out.1 hlt8.out.2.1)
  clear ht hk C11 T17 F17 Y17 U3_17 U4_17 U8_17 z17
  have z18 := blk_cell F18.out.Q.blk 0
  have f18 := blk_frozen Y18.out.blk 10
  have g18 := blk_cell Y18.out.blk 10
  simp only [List.getElem?_toArray, List.getElem?_cons_zero, List.getElem?_cons_succ] at g18
  try dsimp only
  repeat ((fail_if_success (show Code.wp _ (Code.seq (Code.region 13 _ _) _) _ _ _)); (first | go_values | go_skip | go_guarded | go_step | go_upon | go_back))
  have F19 := Aside0.mk (F18.out.far Y18.out NE.out.1 NE.out.2 10 (.int .i64 n11))
  have T19 := Aside0.mk (T18.out.far Y18.out 10 (.int .i64 n11))
  have Y19 := Aside0.mk (Y18.out.put 10 (.int .i64 n11) rfl #[.int .i64 n1, .int .i64 n2, .slice A3 n3.length c3, .slice A4 n4.length c4, .bool h5, .int .i64 n6, .int .u32 n7, .slice A8 n8.length c8, .int .i64 n9, .int .i64 n10, .int .i64 n11] rfl rfl)
  have U3_19 := Aside0.mk (R_far2 U3_18.out hlt3.out.2.2.1 10 (.int .i64 n11))
  have U4_19 := Aside0.mk (R_far2 U4_18.out hlt4.out.2.2.1 10 (.int .i64 n11))
  have U8_19 := Aside0.mk (R_far2 U8_18.out hlt8.out.2.2.1 10 (.int .i64 n11))
  clear T18 F18 Y18 z18 f18 g18 U3_18 U4_18 U8_18
  generalize W18.setCell ⟨b1, 10, none⟩ (.int .i64 n11) = W19 at *
  have z19 := blk_cell F19.out.Q.blk 0
  obtain ⟨rs, bd⟩ := m11
  simp only [] at HO
  have TB := Aside0.mk T19.out.blk
  have d0 := blk_cell TB.out 0
  have d1 := blk_cell TB.out 1
  simp only [List.getElem?_toArray, List.getElem?_cons_zero, List.getElem?_cons_succ] at d0 d1
  clear TB
  cases bd with
  | true =>
    replace HO := Aside0.mk (HO.out.trans (if_pos (.inl rfl)))
    try dsimp only
    repeat ((fail_if_success (show Oper.wp _ (Oper.mk none (Op.store _ _ _) _ _ _ _) _ _ _ _)); (first | go_values | go_skip | go_guarded | go_step | go_upon | go_back))
    refine wp_store_row (c' := #[.int .i64 0, .int .i64 0, .slice none 0 0, .slice none 0 0, .bool false, .int .i64 0, .int .u32 0, .slice none 0 0, .int .i64 0, .int .i64 0, .int .i64 0]) F19.out.X.blk rfl rfl rfl rfl (by kernel_rfl) rfl (by simp [Value.oneCell']) ?_
    have XX := Aside0.mk (F19.out.X.row #[.int .i64 0, .int .i64 0, .slice none 0 0, .slice none 0 0, .bool false, .int .i64 0, .int .u32 0, .slice none 0 0, .int .i64 0, .int .i64 0, .int .i64 0] rfl)
    have KK := Aside0.mk (F19.out.K.mineRow F19.out.X #[.int .i64 0, .int .i64 0, .slice none 0 0, .slice none 0 0, .bool false, .int .i64 0, .int .u32 0, .slice none 0 0, .int .i64 0, .int .i64 0, .int .i64 0])
    generalize W19.setRow w.heap.size #[.int .i64 0, .int .i64 0, .slice none 0 0, .slice none 0 0, .bool false, .int .i64 0, .int .u32 0, .slice none 0 0, .int .i64 0, .int .i64 0, .int .i64 0] = WF at *
    go_wp2_with fail
    exact bodyPost_ret (v := .tuple #[.agg #[.int .i64 0, .int .i64 0, .slice none 0 0, .slice none 0 0, .bool false, .int .i64 0, .int .u32 0, .slice none 0 0, .int .i64 0, .int .i64 0, .int .i64 0], .int .i64 171]) (results_row rfl rfl rfl XX.out.blk Try.underlying50 rfl (by kernel_rfl)) rfl ⟨⟨.slice none 0 0, .slice none 0 0, .slice none 0 0, by rw [HO.out]; rfl, by rw [HO.out]; exact ownRs_nil _ _⟩, Keep2.below KK.out (Below.refl w.heap.size w) HLT.out.1 HLT.out.2 (Nat.le_refl _)⟩
  | false =>
    have CL := Aside0.mk (left_any h rs W19 T19.out.rd)
    by_cases hL : rs = []
    · have hLi : ¬ (0 : Int) < (rs.length : Int) := by subst hL; simp
      replace HO := Aside0.mk (HO.out.trans (if_neg (by subst hL; simp)))
      clear hL
      generalize (rs.length : Int) = lq at *
      go_wp2_with fail
      refine CL.out.mono ?_
      rintro e W20 ⟨rfl, rfl⟩
      clear CL
      try dsimp only
      repeat ((fail_if_success (show Oper.wp _ (Oper.mk _ (Op.load 50 _) _ _ _ _) _ _ _ _)); (first | go_values | go_skip | go_guarded | go_step | go_upon | go_back))
      refine wp_load_row Y19.out.blk rfl rfl Try.underlying50 rfl (by kernel_rfl) ?_
      try go_simp
      try dsimp only
      repeat ((fail_if_success (show Oper.wp _ (Oper.mk none (Op.store _ _ _) _ _ _ _) _ _ _ _)); (first | go_values | go_skip | go_guarded | go_step | go_upon | go_back))
      refine wp_store_row (c' := #[.int .i64 n1, .int .i64 n2, .slice A3 n3.length c3, .slice A4 n4.length c4, .bool h5, .int .i64 n6, .int .u32 n7, .slice A8 n8.length c8, .int .i64 n9, .int .i64 n10, .int .i64 n11]) F19.out.X.blk rfl rfl rfl rfl (by kernel_rfl) rfl (by simp [Value.oneCell']) ?_
      have XX := Aside0.mk (F19.out.X.row #[.int .i64 n1, .int .i64 n2, .slice A3 n3.length c3, .slice A4 n4.length c4, .bool h5, .int .i64 n6, .int .u32 n7, .slice A8 n8.length c8, .int .i64 n9, .int .i64 n10, .int .i64 n11] rfl)
      have KK := Aside0.mk (F19.out.K.mineRow F19.out.X #[.int .i64 n1, .int .i64 n2, .slice A3 n3.length c3, .slice A4 n4.length c4, .bool h5, .int .i64 n6, .int .u32 n7, .slice A8 n8.length c8, .int .i64 n9, .int .i64 n10, .int .i64 n11])
      have UU := Aside0.mk (show OwnRs (W19.setRow w.heap.size #[.int .i64 n1, .int .i64 n2, .slice A3 n3.length c3, .slice A4 n4.length c4, .bool h5, .int .i64 n6, .int .u32 n7, .slice A8 n8.length c8, .int .i64 n9, .int .i64 n10, .int .i64 n11]) w.heap.size (.slice A3 n3.length c3) (.slice A4 n4.length c4) (.slice A8 n8.length c8) ⟨n1, n2, n3, n4, h5, n6, n7, n8, n9, n10, n11⟩ from own_of3 (R_farRow2 U3_19.out hlt3.out.2.2.2 _) (R_farRow2 U4_19.out hlt4.out.2.2.2 _) (R_farRow2 U8_19.out hlt8.out.2.2.2 _) HAP.out (Nat.le_of_lt hlt3.out.2.2.2) (Nat.le_of_lt hlt4.out.2.2.2) (Nat.le_of_lt hlt8.out.2.2.2))
      generalize W19.setRow w.heap.size #[.int .i64 n1, .int .i64 n2, .slice A3 n3.length c3, .slice A4 n4.length c4, .bool h5, .int .i64 n6, .int .u32 n7, .slice A8 n8.length c8, .int .i64 n9, .int .i64 n10, .int .i64 n11] = WF at *
      go_wp2_with fail
      exact bodyPost_ret (v := .tuple #[.agg #[.int .i64 n1, .int .i64 n2, .slice A3 n3.length c3, .slice A4 n4.length c4, .bool h5, .int .i64 n6, .int .u32 n7, .slice A8 n8.length c8, .int .i64 n9, .int .i64 n10, .int .i64 n11], .int .i64 0]) (results_row rfl rfl rfl XX.out.blk Try.underlying50 rfl (by kernel_rfl)) rfl ⟨⟨.slice A3 n3.length c3, .slice A4 n4.length c4, .slice A8 n8.length c8, by rw [HO.out]; rfl, by rw [HO.out]; exact UU.out⟩, Keep2.below KK.out (Below.refl w.heap.size w) HLT.out.1 HLT.out.2 (Nat.le_refl _)⟩
    · have hLp := List.length_pos_iff.2 hL
      have hLi : (0 : Int) < (rs.length : Int) := by omega
      replace HO := Aside0.mk (HO.out.trans (if_pos (.inr hLp)))
      clear hL hLp
      generalize (rs.length : Int) = lq at *
      go_wp2_with fail
      refine CL.out.mono ?_
      rintro e W20 ⟨rfl, rfl⟩
      clear CL
      try dsimp only
      repeat ((fail_if_success (show Oper.wp _ (Oper.mk none (Op.store _ _ _) _ _ _ _) _ _ _ _)); (first | go_values | go_skip | go_guarded | go_step | go_upon | go_back))
      refine wp_store_row (c' := #[.int .i64 0, .int .i64 0, .slice none 0 0, .slice none 0 0, .bool false, .int .i64 0, .int .u32 0, .slice none 0 0, .int .i64 0, .int .i64 0, .int .i64 0]) F19.out.X.blk rfl rfl rfl rfl (by kernel_rfl) rfl (by simp [Value.oneCell']) ?_
      have XX := Aside0.mk (F19.out.X.row #[.int .i64 0, .int .i64 0, .slice none 0 0, .slice none 0 0, .bool false, .int .i64 0, .int .u32 0, .slice none 0 0, .int .i64 0, .int .i64 0, .int .i64 0] rfl)
      have KK := Aside0.mk (F19.out.K.mineRow F19.out.X #[.int .i64 0, .int .i64 0, .slice none 0 0, .slice none 0 0, .bool false, .int .i64 0, .int .u32 0, .slice none 0 0, .int .i64 0, .int .i64 0, .int .i64 0])
      generalize W19.setRow w.heap.size #[.int .i64 0, .int .i64 0, .slice none 0 0, .slice none 0 0, .bool false, .int .i64 0, .int .u32 0, .slice none 0 0, .int .i64 0, .int .i64 0, .int .i64 0] = WF at *
      go_wp2_with fail
      exact bodyPost_ret (v := .tuple #[.agg #[.int .i64 0, .int .i64 0, .slice none 0 0, .slice none 0 0, .bool false, .int .i64 0, .int .u32 0, .slice none 0 0, .int .i64 0, .int .i64 0, .int .i64 0], .int .i64 171]) (results_row rfl rfl rfl XX.out.blk Try.underlying50 rfl (by kernel_rfl)) rfl ⟨⟨.slice none 0 0, .slice none 0 0, .slice none 0 0, by rw [HO.out]; rfl, by rw [HO.out]; exact ownRs_nil _ _⟩, Keep2.below KK.out (Below.refl w.heap.size w) HLT.out.1 HLT.out.2 (Nat.le_refl _)⟩
end Go.Proofs.Ytpaknjmcjblahaa.H
