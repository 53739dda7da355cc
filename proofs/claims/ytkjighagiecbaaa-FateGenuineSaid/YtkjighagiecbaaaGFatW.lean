/- FatW. -/
import Derived.Test.YtkjighagiecbaaaGFatV
namespace Go.Proofs.Ytkjighagiecbaaa.H
open Go.RowKit Go.Proofs.Ytkjighagiecbaaa.P Go.Proofs.YtkjighagiecbaaaW.PrintWords Go.Proofs.YtkjighagiecbaaaW.PrintLast Go.Proofs.YtkjighagiecbaaaW.PrintMore
attribute [local go_sem] Oper.semAt_some
set_option linter.unusedVariables false
set_option linter.unusedSimpArgs false
set_option maxRecDepth 20000
structure TrJ (H : Nat) (A0 : Option Addr) (c0 : Nat) (l0 : List Int) (A1 : Option Addr) (c1 : Nat) (l1 : List S66) (A2 : Option Addr) (c2 : Nat) (l2 : List Rul) (w : World) (pre : List Int) (W : World) : Prop where
  t_ : ∃ v, W.heap[H + 2]? = some (.cells #[v, .int .i64 0, .int .i64 0, .int .i64 0] 35 (0, 0)) ∧ W.ownsRow (H + 10) 3 1 v pre.length (pre.map (Value.int .i64))
  r_ : W.heap[H + 1]? = some (.cells #[.slice none 0 0, .int .i64 0, .int .i64 0, .int .i64 0] 35 (0, 0))
  bel : Below H w W
  net : NetAt A0 c0 l0 A1 c1 l1 A2 c2 l2 W
  big : H + 8 ≤ W.heap.size
section
variable {A0 : Option Addr} {c0 : Nat} {l0 : List Int} {A1 : Option Addr} {c1 : Nat} {l1 : List S66} {A2 : Option Addr} {c2 : Nat} {l2 : List Rul} {w : World} {H : Nat}
theorem row_below {B e s n : Nat} {v : Value} {xs : List Value} {W W' : World} (h : W.ownsRow B e s v n xs) (hb : Below W.heap.size W W') : W'.ownsRow B e s v n xs := by
  obtain ⟨h1, h2 | ⟨g, cap, cur, h3, h4, h5, h6⟩⟩ := h
  · exact ⟨h1, .inl h2⟩
  · exact ⟨h1, .inr ⟨g, cap, cur, h3, h4, blk_below h5 hb, h6⟩⟩
theorem row_far {B e s n : Nat} {v : Value} {xs : List Value} {W W' : World} (h : W.ownsRow B e s v n xs) (hb : ∀ k, B ≤ k → W'.heap[k]? = W.heap[k]?) : W'.ownsRow B e s v n xs := by
  obtain ⟨h1, h2 | ⟨g, cap, cur, h3, h4, h5, h6⟩⟩ := h
  · exact ⟨h1, .inl h2⟩
  · exact ⟨h1, .inr ⟨g, cap, cur, h3, h4, (hb g h4).trans h5, h6⟩⟩
theorem TrJ.below {pre : List Int} {W W' : World} (hH : H = w.heap.size) (hN : NetAt A0 c0 l0 A1 c1 l1 A2 c2 l2 w) (h : TrJ H A0 c0 l0 A1 c1 l1 A2 c2 l2 w pre W) (hb : Below W.heap.size W W') : TrJ H A0 c0 l0 A1 c1 l1 A2 c2 l2 w pre W' := by
  obtain ⟨⟨v, h1, h2⟩, h3, h4, h5, h6⟩ := h
  exact ⟨⟨v, blk_below h1 hb, row_below h2 hb⟩, blk_below h3 hb, h4.trans (hb.mono (by have := h4.size; omega)), h5.below hb, Nat.le_trans h6 hb.size⟩
theorem TrJ.set {pre : List Int} {W : World} (hH : H = w.heap.size) (hN : NetAt A0 c0 l0 A1 c1 l1 A2 c2 l2 w) (h : TrJ H A0 c0 l0 A1 c1 l1 A2 c2 l2 w pre W) (a : Addr) (h1 : H + 3 ≤ a.block) (h2 : a.block < H + 8) (u : Value) : TrJ H A0 c0 l0 A1 c1 l1 A2 c2 l2 w pre (W.setCell a u) := by
  obtain ⟨⟨v, k1, k2⟩, k3, k4, k5, k6⟩ := h
  have hbl : Below H w (W.setCell a u) := k4.setCell (by omega) u
  refine ⟨⟨v, (Below.heap_setCell W a u _ (by omega)).trans k1, row_far k2 fun k hk => Below.heap_setCell W a u k (by omega)⟩, (Below.heap_setCell W a u _ (by omega)).trans k3, hbl, ?_, by simpa using k6⟩
  subst hH
  exact hN.below hbl
theorem TrJ.put {pre : List Int} {W : World} (hH : H = w.heap.size) (hN : NetAt A0 c0 l0 A1 c1 l1 A2 c2 l2 w) (h : TrJ H A0 c0 l0 A1 c1 l1 A2 c2 l2 w pre W) (g : Nat) (hg : H + 8 ≤ g) {r : Loop} (hl : W.heap[g]? = some (.loop r)) (o : Obj) : TrJ H A0 c0 l0 A1 c1 l1 A2 c2 l2 w pre (W.putObj g o) := by
  obtain ⟨⟨v, k1, k2⟩, k3, k4, k5, k6⟩ := h
  have hbl : Below H w (W.putObj g o) := ⟨k4.os, k4.tape, k4.output, by rw [World.putObj_size]; exact k4.size, fun i hi => (World.putObj_heap_other (by omega)).trans (k4.block i hi)⟩
  refine ⟨⟨v, (World.putObj_heap_other (by omega)).trans k1, ?_⟩, (World.putObj_heap_other (by omega)).trans k3, hbl, ?_, by rw [World.putObj_size]; exact k6⟩
  · obtain ⟨h1, h2 | ⟨q, cap, cur, h3, h4, h5, h6⟩⟩ := k2
    · exact ⟨h1, .inl h2⟩
    · exact ⟨h1, .inr ⟨q, cap, cur, h3, h4, (World.putObj_heap_other (fun e => by rw [e, hl] at h5; cases h5)).trans h5, h6⟩⟩
  · subst hH
    exact hN.below hbl
theorem own_C {W : World} {B : Nat} {v : Value} {l : List Int} (h : W.ownsRow B 3 1 v l.length (l.map (Value.int .i64))) : ∃ A c, v = .slice A l.length c ∧ l.length ≤ c ∧ Kd.C (Kd.int .i64) W A l.length l :=
  Kd.R_reads (Kd.R_of_own (enc := Value.int .i64) (h1 := fun _ => rfl) (ok := fun _ => True) h (fun _ _ => trivial))
theorem TrJ.push {pre : List Int} {W w1 : World} {v v' : Value} {x : Int} (hH : H = w.heap.size) (hN : NetAt A0 c0 l0 A1 c1 l1 A2 c2 l2 w) (h : TrJ H A0 c0 l0 A1 c1 l1 A2 c2 l2 w pre W) (hsz : H + 9 < W.heap.size)
    (k1 : W.heap[H + 2]? = some (.cells #[v, .int .i64 0, .int .i64 0, .int .i64 0] 35 (0, 0))) (hrow : W.ownsRow (H + 10) 3 1 v pre.length (pre.map (Value.int .i64))) (o : Obj)
    (hown : w1.ownsRow (H + 10) 3 1 v' (pre.length + 1) (pre.map (Value.int .i64) ++ [.int .i64 x])) (hg : (W.alloc o).grownBy w1 v.ownBlock) :
    TrJ H A0 c0 l0 A1 c1 l1 A2 c2 l2 w (pre ++ [x]) (w1.setCell ⟨H + 2, 0, none⟩ v') ∧ w1.cell? ⟨H + 2, 0, none⟩ = some v ∧ w1.frozen? ⟨H + 2, 0, none⟩ = false ∧ SameB (H + 8) W (w1.setCell ⟨H + 2, 0, none⟩ v') ∧ KiD (H + 3) W (w1.setCell ⟨H + 2, 0, none⟩ v') := by
  have hblk : ∀ k, k < H + 10 → w1.heap[k]? = W.heap[k]? := fun k hk => (hg.block k (by rw [World.size_alloc]; omega) (fun e => by
    obtain ⟨_, ⟨rfl, _⟩ | ⟨g, cap, cur, rfl, h4, _⟩⟩ := hrow
    · cases e
    · simp [Value.ownBlock] at e; omega)).trans (Below.heap_alloc W o k (by omega))
  have hset : ∀ k, k ≠ H + 2 → (w1.setCell ⟨H + 2, 0, none⟩ v').heap[k]? = w1.heap[k]? := fun k hk => Below.heap_setCell w1 _ v' k hk
  have t1 := (hblk (H + 2) (by omega)).trans k1
  have hsz1 : W.heap.size + 1 ≤ w1.heap.size := by have := hg.size; rw [World.size_alloc] at this; exact this
  have hbl0 : Below H w w1 := ((h.bel.alloc (by omega) o).grown hg (by rw [World.size_alloc]; omega) (fun q hq => by
    obtain ⟨_, ⟨rfl, _⟩ | ⟨g, cap, cur, rfl, h4, _⟩⟩ := hrow
    · cases hq
    · simp [Value.ownBlock] at hq; omega))
  have hbl : Below H w (w1.setCell ⟨H + 2, 0, none⟩ v') := hbl0.setCell (by show H ≤ H + 2; omega) v'
  refine ⟨⟨⟨v', blk_set t1 0 v', ?_⟩, (hset _ (by omega)).trans ((hblk _ (by omega)).trans h.r_), hbl, ?_, ?_⟩, blk_cell t1 0, blk_frozen t1 0, ⟨(hset _ (by omega)).trans (hblk _ (by omega)), (hset _ (by omega)).trans (hblk _ (by omega))⟩, fun k h1 h2 => (hset _ (by omega)).trans (hblk _ (by omega))⟩
  · rw [List.length_append, List.map_append]
    exact row_far hown fun k hk => hset k (by omega)
  · subst hH
    exact hN.below hbl
  · show H + 8 ≤ (w1.heap.modify _ _).size
    rw [Array.size_modify]
    omega
theorem KiD.of_below {lo : Nat} {A B : World} (hb : Below A.heap.size A B) (h : lo + 5 ≤ A.heap.size) : KiD lo A B := fun k h1 h2 => hb.block k (by omega)
theorem fin_world {W : World} {B : Nat} {V : Value} {n : Nat} {xs : List Value} {O : Obj} (hsz : H + 8 ≤ W.heap.size) (f x y : Int) (k1 : W.heap[H + 2]? = some (.cells #[V, .int .i64 0, .int .i64 0, .int .i64 0] 35 (0, 0)))
    (k2 : W.ownsRow (H + 10) 3 1 V n xs) (k3 : W.heap[H + 1]? = some (.cells #[.slice none 0 0, .int .i64 0, .int .i64 0, .int .i64 0] 35 (0, 0))) (k4 : Below H w W) (k5 : W.heap[H + 8]? = some O) :
    ∃ W' : World, (((W.setCell ⟨H + 2, 1, none⟩ (.int .i64 f)).setCell ⟨H + 2, 2, none⟩ (.int .i64 x)).setCell ⟨H + 2, 3, none⟩ (.int .i64 y)).drew = W' ∧ W'.heap[H + 2]? = some (.cells #[V, .int .i64 f, .int .i64 x, .int .i64 y] 35 (0, 0)) ∧ W'.ownsRow (H + 10) 3 1 V n xs ∧
      W'.heap[H + 1]? = some (.cells #[.slice none 0 0, .int .i64 0, .int .i64 0, .int .i64 0] 35 (0, 0)) ∧ Below H w W' ∧ W'.heap[H + 8]? = some O := by
  have hset : ∀ k, k ≠ H + 2 → (((W.setCell ⟨H + 2, 1, none⟩ (.int .i64 f)).setCell ⟨H + 2, 2, none⟩ (.int .i64 x)).setCell ⟨H + 2, 3, none⟩ (.int .i64 y)).drew.heap[k]? = W.heap[k]? := fun k hk =>
    (Below.heap_setCell _ _ _ k hk).trans ((Below.heap_setCell _ _ _ k hk).trans (Below.heap_setCell _ _ _ k hk))
  refine ⟨_, rfl, blk_drew (blk_set (blk_set (blk_set k1 1 (.int .i64 f)) 2 (.int .i64 x)) 3 (.int .i64 y)), row_far k2 fun k hk => hset k (by omega), (hset _ (by omega)).trans k3, below_drew (((k4.setCell (p := ⟨H + 2, 1, none⟩) (by show H ≤ H + 2; omega) _).setCell (p := ⟨H + 2, 2, none⟩) (by show H ≤ H + 2; omega) _).setCell (p := ⟨H + 2, 3, none⟩) (by show H ≤ H + 2; omega) _), (hset _ (by omega)).trans k5⟩
theorem row_base {B B' e s n : Nat} {v : Value} {xs : List Value} {W : World} (h : W.ownsRow B e s v n xs) (hB : B' ≤ B) : W.ownsRow B' e s v n xs := by
  obtain ⟨h1, h2 | ⟨g, cap, cur, h3, h4, h5⟩⟩ := h
  · exact ⟨h1, .inl h2⟩
  · exact ⟨h1, .inr ⟨g, cap, cur, h3, Nat.le_trans hB h4, h5⟩⟩
theorem row_put {B e s n g : Nat} {v : Value} {xs : List Value} {W : World} {ds : Option (List Deferred)} (h : W.ownsRow B e s v n xs) (hl : W.heap[g]? = some (.deferred ds)) (o : Obj) : (W.putObj g o).ownsRow B e s v n xs := by
  obtain ⟨h1, h2 | ⟨q, cap, cur, h3, h4, h5, h6⟩⟩ := h
  · exact ⟨h1, .inl h2⟩
  · exact ⟨h1, .inr ⟨q, cap, cur, h3, h4, (World.putObj_heap_other (fun e => by rw [e, hl] at h5; cases h5)).trans h5, h6⟩⟩
theorem fin_world2 {W : World} {V : Value} {n : Nat} {xs : List Value} (f x y : Int) (k2 : W.ownsRow (H + 10) 3 1 V n xs) (k3 : W.heap[H + 1]? = some (.cells #[.slice none 0 0, .int .i64 0, .int .i64 0, .int .i64 0] 35 (0, 0))) (k4 : Below H w W) (k5 : W.heap[H + 8]? = some (.deferred (some []))) :
    ∃ W' : World, (((W.setCell ⟨H + 1, 0, none⟩ V).setCell ⟨H + 1, 1, none⟩ (.int .i64 f)).setCell ⟨H + 1, 2, none⟩ (.int .i64 x)).setCell ⟨H + 1, 3, none⟩ (.int .i64 y) = W' ∧ W'.heap[H + 8]? = some (.deferred (some [])) ∧
      (W'.putObj (H + 8) (.deferred none)).heap[H + 1]? = some (.cells #[V, .int .i64 f, .int .i64 x, .int .i64 y] 35 (0, 0)) ∧ (W'.putObj (H + 8) (.deferred none)).ownsRow H 3 1 V n xs ∧ Below H w (W'.putObj (H + 8) (.deferred none)) := by
  have hset : ∀ k, k ≠ H + 1 → ((((W.setCell ⟨H + 1, 0, none⟩ V).setCell ⟨H + 1, 1, none⟩ (.int .i64 f)).setCell ⟨H + 1, 2, none⟩ (.int .i64 x)).setCell ⟨H + 1, 3, none⟩ (.int .i64 y)).heap[k]? = W.heap[k]? := fun k hk =>
    (Below.heap_setCell _ _ _ k hk).trans ((Below.heap_setCell _ _ _ k hk).trans ((Below.heap_setCell _ _ _ k hk).trans (Below.heap_setCell _ _ _ k hk)))
  have hd := (hset (H + 8) (by omega)).trans k5
  have hb := (((k4.setCell (p := ⟨H + 1, 0, none⟩) (by show H ≤ H + 1; omega) V).setCell (p := ⟨H + 1, 1, none⟩) (by show H ≤ H + 1; omega) (.int .i64 f)).setCell (p := ⟨H + 1, 2, none⟩) (by show H ≤ H + 1; omega) (.int .i64 x)).setCell (p := ⟨H + 1, 3, none⟩) (by show H ≤ H + 1; omega) (.int .i64 y)
  refine ⟨_, rfl, hd, (World.putObj_heap_other (by omega)).trans (blk_set (blk_set (blk_set (blk_set k3 0 V) 1 (.int .i64 f)) 2 (.int .i64 x)) 3 (.int .i64 y)), row_put (row_base (row_far k2 fun k hk => hset k (by omega)) (by omega)) hd _, ?_⟩
  exact ⟨hb.os, hb.tape, hb.output, by rw [World.putObj_size]; exact hb.size, fun i hi => (World.putObj_heap_other (by omega)).trans (hb.block i hi)⟩
theorem ag (W : World) (o : Obj) (k : Nat) : (W.alloc o).heap[k]? = if k = W.heap.size then some o else W.heap[k]? := by
  show (W.heap.push o)[k]? = _
  rw [Array.getElem?_push]
def w0T (A0 : Option Addr) (c0 : Nat) (l0 : List Int) (A1 : Option Addr) (c1 : Nat) (l1 : List S66) (A2 : Option Addr) (c2 : Nat) (l2 : List Rul) (a d : Int) (w : World) : World :=
  (((((((w.alloc (.cells #[.slice A0 l0.length c0, .slice A1 l1.length c1, .slice A2 l2.length c2] 28)).alloc (.cells #[.slice none 0 0, .int .i64 0, .int .i64 0, .int .i64 0] 35)).alloc (.cells #[.slice none 0 0, .int .i64 0, .int .i64 0, .int .i64 0] 35)).alloc (.cells #[.int .i64 4, .int .i64 0, .int .i64 0] 51)).alloc
    (.cells #[.slice A0 l0.length c0, .slice A1 l1.length c1, .slice A2 l2.length c2] 28)).alloc (.cells #[.int .i64 d] 3)).alloc (.cells #[.int .u32 a] 29)).alloc (.cells #[.pointer (some ⟨w.heap.size + 3, 0, none⟩)] 55)
theorem w0T_size (a d : Int) (w : World) : (w0T A0 c0 l0 A1 c1 l1 A2 c2 l2 a d w).heap.size = w.heap.size + 8 := by simp [w0T]
theorem w0T_below (a d : Int) (w : World) : Below w.heap.size w (w0T A0 c0 l0 A1 c1 l1 A2 c2 l2 a d w) := by
  unfold w0T
  refine Below.alloc (Below.alloc (Below.alloc (Below.alloc (Below.alloc (Below.alloc (Below.alloc (Below.alloc (Below.refl _ _) ?_ _) ?_ _) ?_ _) ?_ _) ?_ _) ?_ _) ?_ _) ?_ _ <;> simp <;> omega
theorem w0T_dev (a d : Int) (w : World) : DevB (w.heap.size + 3) A0 c0 l0 A1 c1 l1 A2 c2 l2 a d (w0T A0 c0 l0 A1 c1 l1 A2 c2 l2 a d w) := by
  unfold w0T
  refine ⟨?_, ?_, ?_, ?_, ?_⟩ <;> (simp only [ag, World.size_alloc]; repeat (first | rw [if_pos trivial] | rw [if_pos (by omega)] | rw [if_neg (by omega)]))
theorem w0T_J (a d : Int) (w : World) (hN : NetAt A0 c0 l0 A1 c1 l1 A2 c2 l2 w) : TrJ w.heap.size A0 c0 l0 A1 c1 l1 A2 c2 l2 w [] (w0T A0 c0 l0 A1 c1 l1 A2 c2 l2 a d w) := by
  refine ⟨⟨.slice none 0 0, ?_, World.ownsRow_nil _ _ _ _⟩, ?_, w0T_below a d w, hN.below (w0T_below a d w), by rw [w0T_size]; exact Nat.le_refl _⟩ <;> (unfold w0T; simp only [ag, World.size_alloc]; repeat (first | rw [if_pos trivial] | rw [if_pos (by omega)] | rw [if_neg (by omega)]))
set_option maxHeartbeats 4000000 in
theorem trace_yes (d a : Int) (w : World) (hN : NetAt A0 c0 l0 A1 c1 l1 A2 c2 l2 w) (hd0 : 0 ≤ d) (hd1 : d < (l0.length : Int)) (hl : l2.length * 48 ≤ 140737488355328) (hl1 : l1.length ≤ 4398046511104) :
    Calls Try.prog 8 #[netV A0 c0 l0 A1 c1 l1 A2 c2 l2, .int .i64 d, .int .u32 a] w fun e w' => TraceAt (trcP l1 l2 a d) 0 w.heap.size w e w' := by
  have huN := Try.underlying28
  have huT := Try.underlying25
  have huR := Try.underlying35
  have huP := Try.underlying33
  have huE := Try.underlying51
  have HTR := Aside0.mk (trcP_tr l1 l2 a d)
  have HTL := Aside0.mk (trcP_len l1 l2 a d)
  obtain ⟨R, hR⟩ : ∃ R, trcP l1 l2 a d = R := ⟨_, rfl⟩
  rw [hR] at HTR HTL ⊢
  clear hR
  have hm0 := Kd.C_max hN.r0
  have HN := Aside0.mk hN
  clear hN
  have hd2 : decide (d < 0) = false := by simpa using hd0
  have hd3 : decide ((l0.length : Int) ≤ d) = false := by simpa using hd1
  refine (callsIn_wide (n := 9)).1 ?_
  have h1 : 1 ≤ 9 := by omega
  refine callsIn_of_wp_marks Try.func8 rfl trivial ?_ rfl
  simp only [Try.ntmps8, List.size_toArray, List.length_cons, List.length_nil, Nat.reduceAdd, Nat.reduceSub, Array.replicate_succ, Array.replicate_zero, List.push_toArray, List.append_toArray, List.nil_append, List.cons_append]
  gi_wp2
  refine ⟨trivial, ?_⟩
  refine (callsIn_wide.2 (devices_any (A0 := A0) (c0 := c0) (l0 := l0) (A1 := A1) (c1 := c1) (l1 := l1) (A2 := A2) (c2 := c2) (l2 := l2) d a _ _)).mono ?_
  rintro e w' ⟨rfl, rfl⟩
  gi_wp2
  show Code.wpIn _ _ _ _ _ _ (w0T A0 c0 l0 A1 c1 l1 A2 c2 l2 a d w)
  simp only [Nat.add_assoc, Nat.reduceAdd]
  have HJ0 := Aside0.mk (w0T_J a d w HN.out)
  have HD0 := Aside0.mk (w0T_dev (A0 := A0) (c0 := c0) (l0 := l0) (A1 := A1) (c1 := c1) (l1 := l1) (A2 := A2) (c2 := c2) (l2 := l2) a d w)
  have HS0 := Aside0.mk (w0T_size (A0 := A0) (c0 := c0) (l0 := l0) (A1 := A1) (c1 := c1) (l1 := l1) (A2 := A2) (c2 := c2) (l2 := l2) a d w)
  generalize w0T A0 c0 l0 A1 c1 l1 A2 c2 l2 a d w = W0 at *
  have hs0 := HS0.out
  refine range_with rfl rfl h1 (gf := 36) (lb := #[.pointer (some ⟨w.heap.size + 3 + 2, 0, none⟩), .pointer (some ⟨w.heap.size + 3 + 1, 0, none⟩), .pointer (some ⟨w.heap.size + 3 + 3, 0, none⟩), .pointer (some ⟨w.heap.size + 3 + 4, 0, none⟩)]) rfl trivial (enters' Try.func36 (by kernel_rfl) rfl) (enc := fun x : Int => #[.int .i64 x]) (fun _ => rfl)
    (fun pre W => TrJ w.heap.size A0 c0 l0 A1 c1 l1 A2 c2 l2 w pre W ∧ pre.Nodup) (fun pre W => TrJ w.heap.size A0 c0 l0 A1 c1 l1 A2 c2 l2 w pre W ∧ ∃ p x, pre = p ++ [x] ∧ x ∈ p)
    (fun xs W => xs = R.1 ∧ R.2.1 ≠ 4 ∧ EndAt (w.heap.size + 3) R W) (fun xs W => xs = R.1 ∧ R.2 = (4, (0, 0)) ∧ EndAt (w.heap.size + 3) R W) (KiD (w.heap.size + 3)) KiD.trans 0 R.1.length
    (fun W o k h1 h2 => World.putObj_heap_other (by omega)) (fun xs W o r hr h => ⟨h.1.put rfl HN.out _ (by omega) hr o, h.2⟩) (fun xs W o r hr h => ⟨h.1.put rfl HN.out _ (by omega) hr o, h.2⟩)
    (fun xs W o r hr h => ⟨h.1, h.2.1, (World.putObj_heap_other (by omega)).trans h.2.2⟩) (fun xs W o r hr h => ⟨h.1, h.2.1, (World.putObj_heap_other (by omega)).trans h.2.2⟩)
    (fun o o' => ⟨HJ0.out.below rfl HN.out (((Below.refl _ _).alloc (Nat.le_refl _) _).alloc (by simp) _), List.nodup_nil⟩)
    (fun x => { tmps := #[netV A0 c0 l0 A1 c1 l1 A2 c2 l2, .int .i64 d, .int .u32 a, .pointer (some ⟨w.heap.size, 0, none⟩), undef, undef, .pointer (some ⟨w.heap.size + 1, 0, none⟩), .int .i64 0, .pointer (some ⟨w.heap.size + 2, 0, none⟩), .pointer (some ⟨w.heap.size + 3, 0, none⟩), .int .i64 x, undef, .int .i64 d, .bool false, .bool false, .int .i64 d, .pointer (some ⟨w.heap.size, 0, none⟩), .pointer (some ⟨w.heap.size, 0, none⟩), .slice A0 l0.length c0, .int .i64 l0.length, .bool false, .bool false, undef, .agg #[.int .i64 4, .int .i64 0, .int .i64 0], .agg #[.slice A0 l0.length c0, .slice A1 l1.length c1, .slice A2 l2.length c2], .int .i64 d, .int .u32 a, .func (.func 36) #[] #[.pointer (some ⟨w.heap.size + 5, 0, none⟩), .pointer (some ⟨w.heap.size + 4, 0, none⟩), .pointer (some ⟨w.heap.size + 6, 0, none⟩), .pointer (some ⟨w.heap.size + 7, 0, none⟩)], .int .i64 x, undef, undef, undef, undef, undef, undef, undef, undef, undef, undef, undef, undef, undef, undef, undef, undef, undef, undef], defers := [] })
    (fun o o' => dev_iter 8 (w.heap.size + 3) W0.heap.size (by omega) a d R HTR.out hl _ _ _ (fun pre A h => h.1.net) (fun pre A B h hb => ⟨h.1.below rfl HN.out hb, h.2⟩) (fun pre A v o ho h => ⟨h.1.set rfl HN.out _ (by show w.heap.size + 3 ≤ w.heap.size + 3 + o; omega) (by show w.heap.size + 3 + o < w.heap.size + 8; omega) v, h.2⟩)
      (fun pre A v v' v'' h => ⟨((h.1.set rfl HN.out ⟨w.heap.size + 3, 0, none⟩ (Nat.le_refl _) (by show w.heap.size + 3 < w.heap.size + 8; omega) v).set rfl HN.out ⟨w.heap.size + 3, 1, none⟩ (Nat.le_refl _) (by show w.heap.size + 3 < w.heap.size + 8; omega) v').set rfl HN.out ⟨w.heap.size + 3, 2, none⟩ (Nat.le_refl _) (by show w.heap.size + 3 < w.heap.size + 8; omega) v'', h.2⟩)
      (fun pre x A h hx => by
        have := h.2
        rw [List.nodup_append] at this
        exact this.2.2 x hx x (by simp) rfl)
      (fun pre x A h => by
        obtain ⟨_, p, y, e, hy⟩ := h
        obtain ⟨rfl, e2⟩ := List.append_inj' e rfl
        cases e2
        exact hy)
      (HD0.out.below (((Below.refl _ _).alloc (Nat.le_refl _) _).alloc (by simp) _)))
    ?assign ?body ?done ?stop
  case assign =>
    intro l m x W K hK
    gi_wp2
    exact hK
  case body =>
    rintro l m pre x W ⟨hJ, hnd⟩ hlen hsz
    obtain ⟨i0, hi, hz0, hz1, hz2⟩ := info_parts info3
    have hpl : pre.length ≤ 8796093022210 := by have := HTL.out; omega
    have HJ := Aside0.mk hJ
    obtain ⟨⟨v, k1, hrow⟩, k3, k4, k5, k6⟩ := hJ
    obtain ⟨Av, cv, rfl, hcv, hCv⟩ := own_C hrow
    have t0 := blk_cell k1 0
    have HCT := Aside0.mk (contains_any Av cv pre x W hCv hcv)
    have HX := Aside0.mk hnd
    have HK1 := Aside0.mk k1
    have HROW := Aside0.mk hrow
    have HSZ := Aside0.mk (show w.heap.size + 9 < W.heap.size by omega)
    clear k1 k3 k4 k5 k6 hrow hCv hnd
    by_cases hin : x ∈ pre
    · rw [decide_eq_true hin] at HCT
      have HIN := Aside0.mk hin
      clear hin
      gi_wp2_with (first
        | (refine ⟨trivial, fun h => (by cases h), ?_⟩; refine (CallsIn.inRound l (callsIn_wide.2 HCT.out)).mono ?_; rintro e w' ⟨rfl, hb⟩; have HB := Aside0.mk hb; have k1' := blk_below HK1.out hb; have t0 := blk_cell k1' 0; have HK1' := Aside0.mk k1'; have HROW' := Aside0.mk (row_below HROW.out hb); clear hb k1')
        | (gi_at_builtin; refine wpListIn_append_own _ rfl (.tmp 34) (.tmp 36) 22 rfl (w.heap.size + 10) 3 i0 (.int .i64 0) 1 8 Try.underlying22 hi hz0 hz1 hz2 rfl (by decide) (.slice Av pre.length cv) pre.length (pre.map (Value.int .i64)) rfl (row_below HROW'.out ((Below.refl _ _).alloc (Nat.le_refl _) _)) ⟨w'.heap.size, 0, none⟩ 1 1 [.int .i64 x] rfl rfl (by intro j u hu; match j, hu with | 0, hu => (simp at hu; subst hu; exact blk_cell (blk_new _ _) 0)) (by simp [Value.oneCell']) (by unfold maxLen; omega) (by omega) (by have := HB.out.size; have := HSZ.out; simp; omega) ?_; intro v' w1 hown' hgrow _; obtain ⟨g', cap', rfl⟩ := ownsRow_succ hown'; obtain ⟨hp1, hp2, hp3, hp4, hp5⟩ := TrJ.push rfl HN.out (HJ.out.below rfl HN.out HB.out) (by have := HB.out.size; have := HSZ.out; omega) HK1'.out HROW'.out _ hown' hgrow; have HP1 := Aside0.mk hp1; have HP4 := Aside0.mk hp4; have HP5 := Aside0.mk hp5; clear hp1 hp4 hp5 hown' hgrow))
      exact ⟨rfl, by rw [HS0.out]; exact (SameB.below HB.out (by have := HSZ.out; omega)).trans HP4.out, (KiD.of_below HB.out (by have := HSZ.out; omega)).trans HP5.out, HP1.out, pre, x, rfl, HIN.out⟩
    · rw [decide_eq_false hin] at HCT
      have HIN := Aside0.mk hin
      clear hin
      gi_wp2_with (first
        | (refine ⟨trivial, fun h => (by cases h), ?_⟩; refine (CallsIn.inRound l (callsIn_wide.2 HCT.out)).mono ?_; rintro e w' ⟨rfl, hb⟩; have HB := Aside0.mk hb; have k1' := blk_below HK1.out hb; have t0 := blk_cell k1' 0; have HK1' := Aside0.mk k1'; have HROW' := Aside0.mk (row_below HROW.out hb); clear hb k1')
        | (gi_at_builtin; refine wpListIn_append_own _ rfl (.tmp 34) (.tmp 36) 22 rfl (w.heap.size + 10) 3 i0 (.int .i64 0) 1 8 Try.underlying22 hi hz0 hz1 hz2 rfl (by decide) (.slice Av pre.length cv) pre.length (pre.map (Value.int .i64)) rfl (row_below HROW'.out ((Below.refl _ _).alloc (Nat.le_refl _) _)) ⟨w'.heap.size, 0, none⟩ 1 1 [.int .i64 x] rfl rfl (by intro j u hu; match j, hu with | 0, hu => (simp at hu; subst hu; exact blk_cell (blk_new _ _) 0)) (by simp [Value.oneCell']) (by unfold maxLen; omega) (by omega) (by have := HB.out.size; have := HSZ.out; simp; omega) ?_; intro v' w1 hown' hgrow _; obtain ⟨g', cap', rfl⟩ := ownsRow_succ hown'; obtain ⟨hp1, hp2, hp3, hp4, hp5⟩ := TrJ.push rfl HN.out (HJ.out.below rfl HN.out HB.out) (by have := HB.out.size; have := HSZ.out; omega) HK1'.out HROW'.out _ hown' hgrow; have HP1 := Aside0.mk hp1; have HP4 := Aside0.mk hp4; have HP5 := Aside0.mk hp5; clear hp1 hp4 hp5 hown' hgrow))
      exact ⟨by rw [HS0.out]; exact (SameB.below HB.out (by have := HSZ.out; omega)).trans HP4.out, (KiD.of_below HB.out (by have := HSZ.out; omega)).trans HP5.out, HP1.out, nodup_snoc HX.out HIN.out⟩
  case done =>
    rintro xs W ⟨rfl, h4, hE⟩ ⟨hJ, hnd⟩ hK
    obtain ⟨⟨v, k1, hrow⟩, k3, k4, k5, k6⟩ := hJ
    obtain ⟨devs, f, x, y⟩ := R
    obtain ⟨Av, cv, rfl, hcv, hCv⟩ := own_C hrow
    have t0 := blk_cell k1 0
    have t1 := blk_cell k1 1
    have t2 := blk_cell k1 2
    have t3 := blk_cell k1 3
    have f0 := blk_frozen k1 0
    have f1 := blk_frozen k1 1
    have f2 := blk_frozen k1 2
    have f3 := blk_frozen k1 3
    have e0 := blk_cell hE 0
    have e1 := blk_cell hE 1
    have e2 := blk_cell hE 2
    clear hcv hCv
    rw [HS0.out] at hK
    gi_wp2
    gi_region
    obtain ⟨W5, hW5, q1, q2, q3, q4, q5⟩ := fin_world (B := 0) k6 f x y k1 hrow k3 k4 hK
    rw [hW5]
    clear hW5 t0 t1 t2 t3 f0 f1 f2 f3 e0 e1 e2
    have t0 := blk_cell q1 0
    have t1 := blk_cell q1 1
    have t2 := blk_cell q1 2
    have t3 := blk_cell q1 3
    have r0 := blk_cell q3 0
    have r1 := blk_cell q3 1
    have r2 := blk_cell q3 2
    have r3 := blk_cell q3 3
    have f0 := blk_frozen q3 0
    have f1 := blk_frozen q3 1
    have f2 := blk_frozen q3 2
    have f3 := blk_frozen q3 3
    gi_wp2
    obtain ⟨W6, hW6, s1, s2, s3, s4⟩ := fin_world2 f x y q2 q3 q4 q5
    rw [hW6]
    have z0 := blk_cell s2 0
    have z1 := blk_cell s2 1
    have z2 := blk_cell s2 2
    have z3 := blk_cell s2 3
    refine ⟨by simp, .inl ⟨_, _, rfl, run_takeDeferred s1, ?_⟩⟩
    exact ⟨.tuple #[.agg #[.slice Av devs.length cv, .int .i64 f, .int .i64 x, .int .i64 y], .int .i64 0], by simp [results, Try.results8, go_sem, z0, z1, z2, z3], _, rfl, s3, s4⟩
  case stop =>
    rintro xs W ⟨rfl, h4, hE⟩ ⟨hJ, hnd⟩ hK
    obtain ⟨⟨v, k1, hrow⟩, k3, k4, k5, k6⟩ := hJ
    obtain ⟨devs, f, x, y⟩ := R
    obtain ⟨Av, cv, rfl, hcv, hCv⟩ := own_C hrow
    have t0 := blk_cell k1 0
    have t1 := blk_cell k1 1
    have t2 := blk_cell k1 2
    have t3 := blk_cell k1 3
    have f0 := blk_frozen k1 0
    have f1 := blk_frozen k1 1
    have f2 := blk_frozen k1 2
    have f3 := blk_frozen k1 3
    have e0 := blk_cell hE 0
    have e1 := blk_cell hE 1
    have e2 := blk_cell hE 2
    clear hcv hCv
    rw [HS0.out] at hK
    gi_wp2
    gi_region
    obtain ⟨W5, hW5, q1, q2, q3, q4, q5⟩ := fin_world (B := 0) k6 f x y k1 hrow k3 k4 hK
    rw [hW5]
    clear hW5 t0 t1 t2 t3 f0 f1 f2 f3 e0 e1 e2
    have t0 := blk_cell q1 0
    have t1 := blk_cell q1 1
    have t2 := blk_cell q1 2
    have t3 := blk_cell q1 3
    have r0 := blk_cell q3 0
    have r1 := blk_cell q3 1
    have r2 := blk_cell q3 2
    have r3 := blk_cell q3 3
    have f0 := blk_frozen q3 0
    have f1 := blk_frozen q3 1
    have f2 := blk_frozen q3 2
    have f3 := blk_frozen q3 3
    gi_wp2
    obtain ⟨W6, hW6, s1, s2, s3, s4⟩ := fin_world2 f x y q2 q3 q4 q5
    rw [hW6]
    have z0 := blk_cell s2 0
    have z1 := blk_cell s2 1
    have z2 := blk_cell s2 2
    have z3 := blk_cell s2 3
    refine ⟨by simp, .inl ⟨_, _, rfl, run_takeDeferred s1, ?_⟩⟩
    exact ⟨.tuple #[.agg #[.slice Av devs.length cv, .int .i64 f, .int .i64 x, .int .i64 y], .int .i64 0], by simp [results, Try.results8, go_sem, z0, z1, z2, z3], _, rfl, s3, s4⟩
end
end Go.Proofs.Ytkjighagiecbaaa.H
