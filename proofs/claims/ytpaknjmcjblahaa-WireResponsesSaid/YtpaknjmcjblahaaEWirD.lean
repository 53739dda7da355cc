/- WirD. -/
import Derived.Test.YtpaknjmcjblahaaEWirP
import Derived.Test.YtpaknjmcjblahaaEWirB
import Derived.Deep.LoopGhost
namespace Go.Proofs.Ytpaknjmcjblahaa.H
open Go.RowKit Go.Proofs.Ytpaknjmcjblahaa.P Go.Proofs.YtpaknjmcjblahaaW.PrintWords Go.Proofs.YtpaknjmcjblahaaW.PrintLast Go.Proofs.YtpaknjmcjblahaaW.PrintMore
set_option linter.unusedVariables false
set_option linter.unusedSimpArgs false
set_option maxRecDepth 20000
theorem TK.keepB {W W' : World} {t h base : Nat} {m : Mc} (k : TK W t h m) (ht : t < base) (hh : h < base) (hb : ∀ k, k < base → W'.heap[k]? = W.heap[k]?) : TK W' t h m := by
  obtain ⟨A, c, h1, h2, h3, h4⟩ := k.rd
  exact ⟨(hb t ht).trans k.blk, ⟨A, c, (hb h hh).trans h1, h2, C_moves h3 (fun ad e hn => hb _ (Nat.lt_trans (h4 ad e hn) hh)), h4⟩, k.bytes⟩
theorem RT.keepB {W W' : World} {g base : Nat} {m : Mc} (k : RT W g m) (hh : g < base) (hb : ∀ k, k < base → W'.heap[k]? = W.heap[k]?) : RT W' g m := by
  obtain ⟨B, d, b, i, ⟨h1, h2, h3, h4⟩, h5, h6, h7⟩ := k
  exact ⟨B, d, b, i, ⟨(hb g hh).trans h1, h2, h3, C_moves h4 (fun ad e hn => hb _ (Nat.lt_trans (h7 ad e hn) hh))⟩, h5, h6, h7⟩
theorem R_keep2 {α : Type} {d : Kd α} {e base t h : Nat} {W W' : World} {v : Value} {xs : List α} (hR : d.R e W base (fun _ => True) v xs) (p : Keep2 t h W W') (ht : t < base) (hh : h < base) : d.R e W' base (fun _ => True) v xs :=
  Kd.R_mono (Kd.R_step (Kd.R_bound hR) (fun k ho hlt => p.block k hlt (by have := ho.2.1; omega) (by have := ho.2.1; omega))) (fun _ _ => trivial)
theorem R_grownBase {α : Type} {d : Kd α} {e base : Nat} {W W' : World} {v : Value} {xs : List α} (hR : d.R e W base (fun _ => True) v xs) (hg : W.grownBy W' v.ownBlock) (hs : base ≤ W.heap.size) : ∀ k, k < base → W'.heap[k]? = W.heap[k]? :=
  fun k hk => hg.block k (by omega) (fun e => by have := Kd.R_base hR k e.symm; omega)
theorem Keep2.grownBase {α : Type} {d : Kd α} {e base t h : Nat} {w0 W W' : World} {v : Value} {xs : List α} (K : Keep2 t h w0 W) (hb : base = w0.heap.size) (hR : d.R e W base (fun _ => True) v xs) (hg : W.grownBy W' v.ownBlock) : Keep2 t h w0 W' :=
  ⟨hg.os.trans K.os, hg.tape.trans K.tape, hg.output.trans K.output, Nat.le_trans K.size hg.size, fun k hk h1 h2 => (R_grownBase hR hg (by have := K.size; omega) k (by omega)).trans (K.block k hk h1 h2)⟩
theorem infoRu : (Try.prog.info? 29).map (fun i => (i.zero, i.size, i.bytes)) = some (some (.agg #[.int .i64 0, .int .i64 0, .int .i64 0, .int .i64 0, .int .u32 0, .int .u32 0, .int .i64 0]), 7, 48) := by kernel_rfl
set_option maxHeartbeats 4000000 in
theorem listI_any (g : Nat) (bv lb : Array Value) (one : Mc → Int × Mc) (eg : ∀ args w, (callFunc g args).run Try.prog w = .ok (.enter g args) w) (t h : Nat) (m : Mc) (w : World) (k : TK w t h m)
    (hone : ∀ W m', TK W t h m' → Keep2 t h w W → Calls Try.prog g (bv ++ lb) W fun e w' => e = .returned (.int .i64 (one m').1) ∧ TK w' t h (one m').2 ∧ Keep2 t h W w') :
    Calls Try.prog 41 #[.pointer (some ⟨t, 0, none⟩), .func (.func g) bv lb] w fun e w' => ∃ v, e = .returned v ∧ Kd.R (Kd.int .i64) 3 w' w.heap.size (fun _ => True) v (listM one m).1 ∧ TK w' t h (listM one m).2 ∧ Keep2 t h w w' := by
  have hb0 := numM_bound 100 m k.bytes (by decide)
  rcases q : numM 100 m with ⟨n, m1⟩
  have HL : listM one m = repM one n.toNat m1 := by unfold listM; rw [q]
  rw [HL]
  have C0 := tnum_any t h m 100 (by decide) (by decide) w k
  rw [q] at C0 hb0
  simp only [] at C0 hb0
  obtain ⟨j0, rfl⟩ := Int.eq_ofNat_of_zero_le hb0.1
  rw [Int.toNat_natCast]
  have hj0 : j0 ≤ 100 := by omega
  obtain ⟨RES, hRES⟩ : ∃ r, repM one j0 m1 = r := ⟨_, rfl⟩
  rw [hRES]
  have HRES := Aside0.mk hRES
  have HLT := Aside0.mk k.lt
  clear hRES HL hb0 q k
  go_enter Try.func41, Try.ntmps41
  go_wp2_with fail
  refine C0.mono ?_
  rintro e w1 ⟨rfl, ht, hk⟩
  have T1 := Aside0.mk ht
  have K1 := Aside0.mk hk
  have HS1 := Aside0.mk (show t < w1.heap.size ∧ h < w1.heap.size from ht.lt)
  clear ht hk C0
  go_wp2_with fail
  go_loopw [5, 6] (fun v u wr => ∃ (j : Nat) (xs : List Int) (mm : Mc), u = .int .i64 j ∧ xs.length + j ≤ 100 ∧ Aside0 (Kd.R (Kd.int .i64) 3 wr w1.heap.size (fun _ => True) v xs) ∧ Aside0 (TK wr t h mm) ∧ Aside0 (Keep2 t h w1 wr) ∧ Aside0 (xs ++ (repM one j mm).1 = RES.1 ∧ (repM one j mm).2 = RES.2)) (fun _ u _ => (intOf u).toNat)
  case atStart => exact ⟨j0, [], m1, rfl, by simpa using hj0, ⟨Kd.R_nil _ _ _ _ _⟩, T1, ⟨Keep2.refl _ _ _⟩, ⟨by rw [HRES.out]; exact ⟨rfl, rfl⟩⟩⟩
  case round =>
    clear T1 hj0 HRES
    obtain ⟨j, xs, mm, rfl, hlen, HR, HT, HK, HE⟩ := hrel
    obtain ⟨Av, cv, rfl⟩ := Kd.R_slice HR.out
    have b1 := blk_cell HT.out.blk 1
    simp only [List.getElem?_toArray, List.getElem?_cons_zero, List.getElem?_cons_succ] at b1
    obtain ⟨rest, bad⟩ := mm
    simp only [] at b1
    cases j with
    | zero =>
      have HE2 := Aside0.mk (show xs = RES.1 ∧ ⟨rest, bad⟩ = RES.2 from by simpa [repM] using HE.out)
      clear HE
      go_wp2_with fail
      go_ret
      exact ⟨_, rfl, by rw [← HE2.out.1]; exact Kd.R_lower HR.out K1.out.size, by rw [← HE2.out.2]; exact HT.out, K1.out.trans HK.out⟩
    | succ j =>
      have h1 : (0 : Int) < ((j + 1 : Nat) : Int) := by omega
      cases bad with
      | true =>
        have HE2 := Aside0.mk (show xs = RES.1 ∧ ⟨rest, true⟩ = RES.2 from by simpa [repM] using HE.out)
        clear HE
        go_wp2_with fail
        go_ret
        exact ⟨_, rfl, by rw [← HE2.out.1]; exact Kd.R_lower HR.out K1.out.size, by rw [← HE2.out.2]; exact HT.out, K1.out.trans HK.out⟩
      | false =>
        have HC := hone _ _ HT.out (K1.out.trans HK.out)
        have HE2 := Aside0.mk (show xs ++ ((one ⟨rest, false⟩).1 :: (repM one j (one ⟨rest, false⟩).2).1) = RES.1 ∧ (repM one j (one ⟨rest, false⟩).2).2 = RES.2 from by simpa [repM] using HE.out)
        rcases q : one ⟨rest, false⟩ with ⟨y, m2⟩
        rw [q] at HC HE2
        simp only [] at HC
        clear HE q
        go_wp2_with fail
        refine HC.mono ?_
        rintro e w2 ⟨rfl, ht, hk⟩
        have HR2 := Aside0.mk (R_keep2 HR.out hk HS1.out.1 HS1.out.2)
        have HK2 := Aside0.mk (HK.out.trans hk)
        have HT2 := Aside0.mk ht
        have hl2 := Aside0.mk hlen
        clear ht hk HC HT HK HR b1 hlen
        go_wp2_with (first
          | ((with_reducible refine gate_builtin (b := .append) (xs := #[.tmp 20, .tmp 23]) rfl ?_); at_builtin; refine Kd.R_append (Kd.int .i64) (w0 := w2) w1.heap.size rfl (.tmp 20) (.tmp 23) 40 3 (.int .i64 0) 8 rfl Try.underlying40 info3 rfl (by decide) (by omega) (.slice Av xs.length cv) xs y [.int .i64 y] (fun _ => True) (fun _ => False) rfl (by first | (go_simp; done) | (go_simp; rfl)) ?aP (fun _ hk => hk.elim) (fun _ _ => trivial) HR2.out (Below.refl _ _) HK2.out.size ?aL ?_; (case aP => exact rfl); (case aL => have := hl2.out; omega); intro v1 w3 hv1 hb3 hg3 ho3; have HV := Aside0.mk hv1; have HG3 := Aside0.mk hg3; clear hv1 hb3 hg3 ho3))
        have hlen := hl2.out
        have HT3 := Aside0.mk (HT2.out.keepB HS1.out.1 HS1.out.2 (R_grownBase HR2.out HG3.out HK2.out.size))
        have HK3 := Aside0.mk (HK2.out.grownBase rfl HR2.out HG3.out)
        have hw : wrap64 (j : Int) = (j : Int) := by unfold wrap64; omega
        clear HT2 HK2 HR2 HG3 hl2
        go_roundw
        case rel => exact ⟨j, xs ++ [y], m2, by go_num, by rw [List.length_append, List.length_singleton]; omega, HV, HT3, HK3, ⟨by rw [List.append_assoc]; exact HE2.out⟩⟩
        case measure => (try rw [hw]); simp only [intOf]; omega
set_option maxHeartbeats 4000000 in
theorem listR_any (g : Nat) (bv lb : Array Value) (one : Mc → Ru × Mc) (eg : ∀ args w, (callFunc g args).run Try.prog w = .ok (.enter g args) w) (t h : Nat) (m : Mc) (w : World) (k : TK w t h m)
    (hone : ∀ W m', TK W t h m' → Keep2 t h w W → Calls Try.prog g (bv ++ lb) W fun e w' => e = .returned (.agg (ruleVals (one m').1).toArray) ∧ TK w' t h (one m').2 ∧ Keep2 t h W w') :
    Calls Try.prog 43 #[.pointer (some ⟨t, 0, none⟩), .func (.func g) bv lb] w fun e w' => ∃ v, e = .returned v ∧ Kd.R k29 29 w' w.heap.size (fun _ => True) v (listM one m).1 ∧ TK w' t h (listM one m).2 ∧ Keep2 t h w w' := by
  have hb0 := numM_bound 100 m k.bytes (by decide)
  rcases q : numM 100 m with ⟨n, m1⟩
  have HL : listM one m = repM one n.toNat m1 := by unfold listM; rw [q]
  rw [HL]
  have C0 := tnum_any t h m 100 (by decide) (by decide) w k
  rw [q] at C0 hb0
  simp only [] at C0 hb0
  obtain ⟨j0, rfl⟩ := Int.eq_ofNat_of_zero_le hb0.1
  rw [Int.toNat_natCast]
  have hj0 : j0 ≤ 100 := by omega
  obtain ⟨RES, hRES⟩ : ∃ r, repM one j0 m1 = r := ⟨_, rfl⟩
  rw [hRES]
  have HRES := Aside0.mk hRES
  have HLT := Aside0.mk k.lt
  clear hRES HL hb0 q k
  unfold ruleVals at hone
  go_enter Try.func43, Try.ntmps43
  go_wp2_with fail
  refine C0.mono ?_
  rintro e w1 ⟨rfl, ht, hk⟩
  have T1 := Aside0.mk ht
  have K1 := Aside0.mk hk
  have HS1 := Aside0.mk (show t < w1.heap.size ∧ h < w1.heap.size from ht.lt)
  clear ht hk C0
  go_wp2_with fail
  go_loopw [5, 6] (fun v u wr => ∃ (j : Nat) (xs : List Ru) (mm : Mc), u = .int .i64 j ∧ xs.length + j ≤ 100 ∧ Aside0 (Kd.R k29 29 wr w1.heap.size (fun _ => True) v xs) ∧ Aside0 (TK wr t h mm) ∧ Aside0 (Keep2 t h w1 wr) ∧ Aside0 (xs ++ (repM one j mm).1 = RES.1 ∧ (repM one j mm).2 = RES.2)) (fun _ u _ => (intOf u).toNat)
  case atStart => exact ⟨j0, [], m1, rfl, by simpa using hj0, ⟨Kd.R_nil _ _ _ _ _⟩, T1, ⟨Keep2.refl _ _ _⟩, ⟨by rw [HRES.out]; exact ⟨rfl, rfl⟩⟩⟩
  case round =>
    clear T1 hj0 HRES
    obtain ⟨j, xs, mm, rfl, hlen, HR, HT, HK, HE⟩ := hrel
    obtain ⟨Av, cv, rfl⟩ := Kd.R_slice HR.out
    have b1 := blk_cell HT.out.blk 1
    simp only [List.getElem?_toArray, List.getElem?_cons_zero, List.getElem?_cons_succ] at b1
    obtain ⟨rest, bad⟩ := mm
    simp only [] at b1
    cases j with
    | zero =>
      have HE2 := Aside0.mk (show xs = RES.1 ∧ ⟨rest, bad⟩ = RES.2 from by simpa [repM] using HE.out)
      clear HE
      go_wp2_with fail
      go_ret
      exact ⟨_, rfl, by rw [← HE2.out.1]; exact Kd.R_lower HR.out K1.out.size, by rw [← HE2.out.2]; exact HT.out, K1.out.trans HK.out⟩
    | succ j =>
      have h1 : (0 : Int) < ((j + 1 : Nat) : Int) := by omega
      cases bad with
      | true =>
        have HE2 := Aside0.mk (show xs = RES.1 ∧ ⟨rest, true⟩ = RES.2 from by simpa [repM] using HE.out)
        clear HE
        go_wp2_with fail
        go_ret
        exact ⟨_, rfl, by rw [← HE2.out.1]; exact Kd.R_lower HR.out K1.out.size, by rw [← HE2.out.2]; exact HT.out, K1.out.trans HK.out⟩
      | false =>
        have HC := hone _ _ HT.out (K1.out.trans HK.out)
        have HE2 := Aside0.mk (show xs ++ ((one ⟨rest, false⟩).1 :: (repM one j (one ⟨rest, false⟩).2).1) = RES.1 ∧ (repM one j (one ⟨rest, false⟩).2).2 = RES.2 from by simpa [repM] using HE.out)
        rcases q : one ⟨rest, false⟩ with ⟨y, m2⟩
        rw [q] at HC HE2
        simp only [] at HC
        clear HE q
        go_wp2_with fail
        refine HC.mono ?_
        rintro e w2 ⟨rfl, ht, hk⟩
        have HR2 := Aside0.mk (R_keep2 HR.out hk HS1.out.1 HS1.out.2)
        have HK2 := Aside0.mk (HK.out.trans hk)
        have HT2 := Aside0.mk ht
        have hl2 := Aside0.mk hlen
        clear ht hk HC HT HK HR b1 hlen
        go_wp2_with (first
          | ((with_reducible refine gate_builtin (b := .append) (xs := #[.tmp 20, .tmp 23]) rfl ?_); at_builtin; refine Kd.R_append k29 (w0 := w2) w1.heap.size rfl (.tmp 20) (.tmp 23) 41 29 (.agg #[.int .i64 0, .int .i64 0, .int .i64 0, .int .i64 0, .int .u32 0, .int .u32 0, .int .i64 0]) 48 rfl Try.underlying41 infoRu rfl (by decide) (by omega) (.slice Av xs.length cv) xs y [.int .i64 y.f0, .int .i64 y.f1, .int .i64 y.f2, .int .i64 y.f3, .int .u32 y.f4.f0, .int .u32 y.f4.f1, .int .i64 y.f5] (fun _ => True) (fun _ => False) rfl (by first | (go_simp; done) | (go_simp; rfl)) ?aP (fun _ hk => hk.elim) (fun _ _ => trivial) HR2.out (Below.refl _ _) HK2.out.size ?aL ?_; (case aP => exact k29_mkM _ _ _ y); (case aL => have := hl2.out; omega); intro v1 w3 hv1 hb3 hg3 ho3; have HV := Aside0.mk hv1; have HG3 := Aside0.mk hg3; clear hv1 hb3 hg3 ho3))
        have hlen := hl2.out
        have HT3 := Aside0.mk (HT2.out.keepB HS1.out.1 HS1.out.2 (R_grownBase HR2.out HG3.out HK2.out.size))
        have HK3 := Aside0.mk (HK2.out.grownBase rfl HR2.out HG3.out)
        have hw : wrap64 (j : Int) = (j : Int) := by unfold wrap64; omega
        clear HT2 HK2 HR2 HG3 hl2
        go_roundw
        case rel => exact ⟨j, xs ++ [y], m2, by go_num, by rw [List.length_append, List.length_singleton]; omega, HV, HT3, HK3, ⟨by rw [List.append_assoc]; exact HE2.out⟩⟩
        case measure => (try rw [hw]); simp only [intOf]; omega
theorem clowideW_any (t h q : Nat) (w : World) (hq : w.heap[q]? = some (.cells #[.pointer (some ⟨t, 0, none⟩)] 73 (0, 0))) (n1 : q ≠ t) (n2 : q ≠ h) : ∀ W m', TK W t h m' → Keep2 t h w W → Calls Try.prog 42 (#[] ++ #[.pointer (some ⟨q, 0, none⟩)]) W fun e w' => e = .returned (.int .i64 (numM wideW m').1) ∧ TK w' t h (numM wideW m').2 ∧ Keep2 t h W w' := by
  intro W m' k p
  have C := tnum_any t h m' wideW (by decide) (by decide) W k
  have c0 := blk_cell (p.blk hq n1 n2) 0
  clear hq p k
  go_enter Try.func42, Try.ntmps42
  go_wp2_with fail
  refine C.mono ?_
  rintro e w' ⟨rfl, ht, hk⟩
  clear c0 C
  have HT := Aside0.mk ht
  have HK := Aside0.mk hk
  clear ht hk
  go_wp2_with fail
  go_ret
  exact ⟨rfl, HT.out, HK.out⟩
theorem clo255_any (t h q : Nat) (w : World) (hq : w.heap[q]? = some (.cells #[.pointer (some ⟨t, 0, none⟩)] 73 (0, 0))) (n1 : q ≠ t) (n2 : q ≠ h) : ∀ W m', TK W t h m' → Keep2 t h w W → Calls Try.prog 44 (#[] ++ #[.pointer (some ⟨q, 0, none⟩)]) W fun e w' => e = .returned (.int .i64 (numM 255 m').1) ∧ TK w' t h (numM 255 m').2 ∧ Keep2 t h W w' := by
  intro W m' k p
  have C := tnum_any t h m' 255 (by decide) (by decide) W k
  have c0 := blk_cell (p.blk hq n1 n2) 0
  clear hq p k
  go_enter Try.func44, Try.ntmps44
  go_wp2_with fail
  refine C.mono ?_
  rintro e w' ⟨rfl, ht, hk⟩
  clear c0 C
  have HT := Aside0.mk ht
  have HK := Aside0.mk hk
  clear ht hk
  go_wp2_with fail
  go_ret
  exact ⟨rfl, HT.out, HK.out⟩
end Go.Proofs.Ytpaknjmcjblahaa.H
