/- A tree that is held beside the document's pairs; Held.put: walked. -/
import Derived.Test.YtbiccahkniadfaaTreeK
namespace Go.Proofs.Ytbiccahkniadfaa.H
open Go.RowKit Go.Proofs.Ytbiccahkniadfaa.P Go.Proofs.YtbiccahkniadfaaW.PrintWords Go.Proofs.YtbiccahkniadfaaW.PrintLast Go.Proofs.YtbiccahkniadfaaW.PrintMore
set_option linter.unusedVariables false
set_option linter.unusedSimpArgs false
/-- Nothing but the block H, and what is new. -/
structure Bel (H : Nat) (w w' : World) : Prop where
  keep : KeepBut w w' H none
  os : w'.os = w.os
  tape : w'.tape = w.tape
  output : w'.output = w.output
theorem Bel.refl (H : Nat) (w : World) : Bel H w w := ⟨KeepBut.refl _ _ _, rfl, rfl, rfl⟩
theorem Bel.of {H : Nat} {w w' : World} (h : Below w.heap.size w w') : Bel H w w' := ⟨KeepBut.of_below h H none, h.os, h.tape, h.output⟩
theorem Bel.trans {H : Nat} {a b c : World} (h : Bel H a b) (k : Bel H b c) : Bel H a c := ⟨h.keep.trans k.keep (.inl rfl), k.os.trans h.os, k.tape.trans h.tape, k.output.trans h.output⟩
theorem Bel.set {H : Nat} {a b : World} (h : Bel H a b) (j : Nat) (u : Value) : Bel H a (b.setCell ⟨H, j, none⟩ u) := ⟨h.keep.set_ j u, h.os, h.tape, h.output⟩
theorem Bel.below {H B : Nat} {w0 w w' : World} (h : Bel H w w') (hb : Below B w0 w) (hH : B ≤ H) (hs : B ≤ w.heap.size) : Below B w0 w' :=
  ⟨h.os.trans hb.os, h.tape.trans hb.tape, h.output.trans hb.output, Nat.le_trans hb.size h.keep.1, fun k hk => (h.keep.2 k (by omega) (by omega) (by simp)).trans (hb.block k hk)⟩
theorem TreeAt.keep {W W' : World} {H : Nat} {cs : Array Value} (hH : W.heap[H]? = some (.cells cs 39 (0, 0))) (hk : KeepBut W W' H none) : ∀ {t : T} {p : Option Addr}, TreeAt W p t → TreeAt W' p t
  | .leaf, _, h1 => h1
  | .node l k v r, _, ⟨g, pl, pr, h1, h2, h3, h4⟩ => ⟨g, pl, pr, h1, hk.blk h2 (blk_ne h2 hH (by decide)) (by simp), TreeAt.keep hH hk h3, TreeAt.keep hH hk h4⟩
theorem RootAt.keep {W W' : World} {H : Nat} {cs : Array Value} (hH : W.heap[H]? = some (.cells cs 39 (0, 0))) (hk : KeepBut W W' H none) {P : Option Addr} {t : T} (h : RootAt W P t) : RootAt W' P t := by
  rcases h with h | ⟨g, p, h1, h2, h3⟩
  · exact .inl h
  · exact .inr ⟨g, p, h1, hk.blk h2 (blk_ne h2 hH (by decide)) (by simp), h3.keep hH hk⟩
/-- What is held: a tree, and the document's pairs, which are the tree's. -/
def HeldAt (W : World) (H : Nat) (t : T) : Prop := ∃ P v, W.heap[H]? = some (.cells #[.pointer P, v] 39 (0, 0)) ∧ RootAt W P t ∧ Kd.V k50 50 W 0 (fun k => k ≠ H) v (encT (toL t))
structure Fit (t : T) : Prop where
  srt : srt t
  bal : bal t
  size : sz t ≤ 1024
theorem hasL_eq (k : Int) (t : T) (h : srt t) : hasL k (toL t) = hasT k t := by
  obtain ⟨r1, r2⟩ := rest_upp k (toL t) h
  cases hq : hasL k (toL t) with
  | true =>
    obtain ⟨v, e⟩ := r1 hq
    have : (k, v) ∈ (toL t).filter (fun p => !decide (p.1 < k)) := by rw [e]; exact List.mem_cons_self
    exact ((has_iff k t h).2 ⟨v, (List.mem_filter.1 this).1⟩).symm
  | false =>
    cases hh : hasT k t with
    | false => rfl
    | true =>
      obtain ⟨v, hv⟩ := (has_iff k t h).1 hh
      have h1 : (k, v) ∈ (toL t).filter (fun p => !decide (p.1 < k)) := List.mem_filter.2 ⟨hv, by simp⟩
      rw [r2 hq] at h1
      have := (List.mem_filter.1 h1).2
      simp at this
def putT (k v : Int) (t : T) : T := if fullT k t then t else withT k v t
theorem Fit.put {t : T} (h : Fit t) (k v : Int) : Fit (putT k v t) := by
  unfold putT
  cases hf : fullT k t with
  | true => exact h
  | false =>
    refine ⟨(mem_with k v t h.srt).1, (bal_with k v t h.bal).1, ?_⟩
    have h1 := h.size
    show sz (withT k v t) ≤ 1024
    rw [sz_with_eq]
    unfold fullT at hf
    cases hh : hasT k t with
    | true => simp; omega
    | false => rw [hh] at hf; simp at hf; simp; omega
/-- A call of the document's Put. -/
theorem ref_put (k v : Int) (t : T) (hf : Fit t) (u : Value) (H : Nat) (w : World) (hH : H < w.heap.size) (hv : Kd.V k50 50 w 0 (fun k => k ≠ H) u (encT (toL t))) :
    Calls Try.prog 41 #[u, .int .u64 k, .int .i64 v] w fun e w' => (∃ u', e = .returned (.tuple #[u', .int .i64 (if fullT k t then 41 else 0)]) ∧ (fullT k t = false → Kd.V k50 50 w' 0 (fun k => k ≠ H) u' (encT (toL (withT k v t))))) ∧ Below w.heap.size w w' := by
  have h1 := put_ev k v (toL t) (by rw [toL_len]; have := hf.size; omega) hf.srt
  rw [hasL_eq k t hf.srt, toL_len, show (!hasT k t && decide (1024 ≤ sz t)) = fullT k t from rfl, ← toL_with k v t hf.srt] at h1
  obtain ⟨n, hn⟩ := h1.rounds
  obtain ⟨A, c, rfl, hl, hF⟩ := hv
  cases hfu : fullT k t with
  | true =>
    rw [hfu] at hn
    refine (waystoneref04_Put.calls n A c _ k v _ _ w (Kd.F_now hF) hl hn).mono ?_
    rintro e w' ⟨u', rfl, hR, hb⟩
    exact ⟨⟨u', rfl, fun h => by cases h⟩, hb⟩
  | false =>
    rw [hfu] at hn
    refine (waystoneref04_Put.calls n A c _ k v _ _ w (Kd.F_now hF) hl hn).mono ?_
    rintro e w' ⟨u', rfl, hR, hb⟩
    exact ⟨⟨u', rfl, fun _ => Kd.R_V (Kd.R_mono (Kd.R_bound hR) fun k hk => by have := hk.2.1; omega)⟩, hb⟩
set_option maxRecDepth 20000 in
set_option maxHeartbeats 1600000 in
theorem hput_any (H : Nat) (k v : Int) (t : T) (w : World) (h : HeldAt w H t) (hf : Fit t) :
    Calls Try.prog 32 #[.pointer (some ⟨H, 0, none⟩), .int .u64 k, .int .i64 v] w fun e w' => e = .returned (.bool true) ∧ HeldAt w' H (putT k v t) ∧ Bel H w w' := by
  obtain ⟨P, u, hH, hr, hv⟩ := h
  have HPUT := Aside0.mk (put_any P k v t w hr (by have := hf.size; omega))
  have HF := Aside0.mk hf
  have HR := Aside0.mk hr
  have HV := Aside0.mk hv
  have HH := Aside0.mk hH
  have d0 := blk_cell hH 0
  clear hr hv hH hf
  go_enter Try.func32, Try.ntmps32
  go_wp2_with fail
  refine HPUT.out.mono ?_
  rintro e w1 ⟨hc, hb⟩
  have HB1 := Aside0.mk hb
  have HH1 := Aside0.mk (blk_below HH.out hb)
  have HV1 := Aside0.mk (Kd.V_below HV.out hb)
  have HR1 := Aside0.mk (HR.out.below hb)
  have d1 := blk_cell HH1.out 1
  have HREF := Aside0.mk (ref_put k v t HF.out u H w1 (blk_lt HH1.out) HV1.out)
  clear hb d0
  rcases hc with ⟨hfu, rfl⟩ | ⟨hfu, g, rfl, hg⟩
  · have HFU := Aside0.mk (show putT k v t = t from by unfold putT; rw [hfu]; rfl)
    have hre := HREF.out
    rw [hfu] at hre
    clear hfu
    go_wp2_with fail
    refine hre.mono ?_
    rintro e w2 ⟨⟨u', rfl, _⟩, hb⟩
    have HB2 := Aside0.mk (HB1.out.trans (hb.mono HB1.out.size))
    have HH2 := Aside0.mk (blk_below HH1.out hb)
    have HV2 := Aside0.mk (Kd.V_below HV1.out hb)
    have HR2 := Aside0.mk (HR1.out.below hb)
    clear hb hre d1
    go_wp2_with fail
    go_ret
    exact ⟨rfl, by rw [HFU.out]; exact ⟨P, u, HH2.out, HR2.out, HV2.out⟩, Bel.of HB2.out⟩
  · have HFU := Aside0.mk (show putT k v t = withT k v t from by unfold putT; rw [hfu]; rfl)
    have hre := HREF.out
    rw [hfu] at hre
    have HG := Aside0.mk hg
    clear hfu hg
    go_wp2_with fail
    refine hre.mono ?_
    rintro e w2 ⟨⟨u', rfl, hu⟩, hb⟩
    have HB2 := Aside0.mk (HB1.out.trans (hb.mono HB1.out.size))
    have HH2 := Aside0.mk (blk_below HH1.out hb)
    have HU2 := Aside0.mk (hu trivial)
    have HG2 := Aside0.mk (HG.out.below hb)
    obtain ⟨A', c', rfl⟩ := Kd.V_slice HU2.out
    clear hb hre d1 hu
    have k0 := blk_cell HH2.out 0
    have k1 := blk_cell HH2.out 1
    have f0 := blk_frozen HH2.out 0
    have f1 := blk_frozen HH2.out 1
    go_wp2_with fail
    go_ret
    have m1 := blk_set (blk_set HH2.out 0 (.pointer (some ⟨g, 0, none⟩))) 1 (.slice A' (encT (toL (withT k v t))).length c')
    have hk : KeepBut w2 ((w2.setCell ⟨H, 0, none⟩ (.pointer (some ⟨g, 0, none⟩))).setCell ⟨H, 1, none⟩ (.slice A' (encT (toL (withT k v t))).length c')) H none := ((KeepBut.refl _ _ _).set_ 0 _).set_ 1 _
    exact ⟨rfl, by rw [HFU.out]; exact ⟨_, _, m1, HG2.out.keep HH2.out hk, Kd.V_keep HU2.out hk (fun _ h => h)⟩, ((Bel.of HB2.out).set 0 _).set 1 _⟩
end Go.Proofs.Ytbiccahkniadfaa.H
