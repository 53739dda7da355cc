/- Wir1. -/
import Derived.Test.YtpaknjmcjblahaaENumR2
import Derived.Deep.RegionHeld3
namespace Go.Proofs.Ytpaknjmcjblahaa.H
open Go.RowKit Go.Proofs.Ytpaknjmcjblahaa.P Go.Proofs.YtpaknjmcjblahaaW.PrintWords Go.Proofs.YtpaknjmcjblahaaW.PrintLast Go.Proofs.YtpaknjmcjblahaaW.PrintMore
set_option linter.unusedVariables false
set_option linter.unusedSimpArgs false
structure Mc where
  rest : List Int
  bad : Bool
def numM (most : Int) (m : Mc) : Int × Mc := if (nextS m.rest).2 ≠ 0 ∧ (nextS m.rest).1 ≤ most then ((nextS m.rest).1, ⟨m.rest.drop (nextS m.rest).2, m.bad⟩) else (0, ⟨m.rest, true⟩)
def textM (most : Int) (m : Mc) : ByteArray × Mc :=
  if (nextS m.rest).2 ≠ 0 ∧ (nextS m.rest).1 ≤ most ∧ (nextS m.rest).1 ≤ (m.rest.length : Int) - (nextS m.rest).2 then
    (strOfNums ((m.rest.take ((nextS m.rest).2 + (nextS m.rest).1.toNat)).drop (nextS m.rest).2), ⟨m.rest.drop ((nextS m.rest).2 + (nextS m.rest).1.toNat), m.bad⟩)
  else (⟨#[]⟩, ⟨m.rest, true⟩)
structure Keep2 (t h : Nat) (W W' : World) : Prop where
  os : W'.os = W.os
  tape : W'.tape = W.tape
  output : W'.output = W.output
  size : W.heap.size ≤ W'.heap.size
  block : ∀ k, k < W.heap.size → k ≠ t → k ≠ h → W'.heap[k]? = W.heap[k]?
theorem Keep2.refl (t h : Nat) (W : World) : Keep2 t h W W := ⟨rfl, rfl, rfl, Nat.le_refl _, fun _ _ _ _ => rfl⟩
theorem Keep2.trans {t h : Nat} {a b c : World} (p : Keep2 t h a b) (q : Keep2 t h b c) : Keep2 t h a c :=
  ⟨q.os.trans p.os, q.tape.trans p.tape, q.output.trans p.output, Nat.le_trans p.size q.size, fun k hk h1 h2 => (q.block k (Nat.lt_of_lt_of_le hk p.size) h1 h2).trans (p.block k hk h1 h2)⟩
theorem Keep2.of {t h : Nat} {a b : World} (p : Below a.heap.size a b) : Keep2 t h a b := ⟨p.os, p.tape, p.output, p.size, fun k hk _ _ => p.block k hk⟩
theorem Keep2.set1 {t h : Nat} {a b : World} (p : Keep2 t h a b) (j : Nat) (u : Value) : Keep2 t h a (b.setCell ⟨t, j, none⟩ u) := by
  have q := (Below.refl 0 b).setCell (p := ⟨t, j, none⟩) (Nat.zero_le _) u
  exact p.trans ⟨q.os, q.tape, q.output, q.size, fun k _ h1 _ => Below.heap_setCell b ⟨t, j, none⟩ u k h1⟩
theorem Keep2.set2 {t h : Nat} {a b : World} (p : Keep2 t h a b) (j : Nat) (u : Value) : Keep2 t h a (b.setCell ⟨h, j, none⟩ u) := by
  have q := (Below.refl 0 b).setCell (p := ⟨h, j, none⟩) (Nat.zero_le _) u
  exact p.trans ⟨q.os, q.tape, q.output, q.size, fun k _ _ h2 => Below.heap_setCell b ⟨h, j, none⟩ u k h2⟩
theorem Keep2.blk {t h k : Nat} {a b : World} {o : Obj} (p : Keep2 t h a b) (hb : a.heap[k]? = some o) (h1 : k ≠ t) (h2 : k ≠ h) : b.heap[k]? = some o := (p.block k (blk_lt hb) h1 h2).trans hb
theorem Keep2.below {t h B : Nat} {w0 a b : World} (p : Keep2 t h a b) (hb : Below B w0 a) (h1 : B ≤ t) (h2 : B ≤ h) (h3 : B ≤ a.heap.size) : Below B w0 b :=
  ⟨p.os.trans hb.os, p.tape.trans hb.tape, p.output.trans hb.output, Nat.le_trans hb.size p.size, fun k hk => (p.block k (by omega) (by omega) (by omega)).trans (hb.block k hk)⟩
theorem nextS_zero (l : List Int) (h : (nextS l).2 = 0) : (nextS l).1 = 0 := by
  unfold nextS at h ⊢
  split
  · rfl
  · rename_i c rest
    dsimp only at h ⊢
    by_cases h1 : c < 240
    · rw [if_pos h1] at h; cases h
    · rw [if_neg h1] at h ⊢
      by_cases h2 : 248 ≤ c ∨ rest.length < (c - 239).toNat ∨ rest.getD 0 0 = 0
      · rw [if_pos h2]
      · rw [if_neg h2] at h ⊢
        by_cases h3 : val (rest.take (c - 239).toNat) < 240
        · rw [if_pos h3]
        · rw [if_neg h3] at h; simp only [] at h; omega
structure TK (W : World) (t h : Nat) (m : Mc) : Prop where
  blk : W.heap[t]? = some (.cells #[.pointer (some ⟨h, 0, none⟩), .bool m.bad] 77 (0, 0))
  rd : RD W h m.rest
  bytes : bytes m.rest
theorem TK.below {W W' : World} {t h : Nat} {m : Mc} (k : TK W t h m) (hb : Below W.heap.size W W') : TK W' t h m := ⟨blk_below k.blk hb, k.rd.below hb, k.bytes⟩
theorem tk_apart {w : World} {t : Nat} {P : Option Addr} {bad : Bool} (hg : w.heap[t]? = some (.cells #[.pointer P, .bool bad] 77 (0, 0))) {B : Option Addr} {n : Nat} {m : List Int} (hC : Kd.C (Kd.int .u8) w B n m) : ∀ ad, B = some ad → 0 < n → ad.block ≠ t := by
  rintro ad rfl hn rfl
  obtain ⟨ad', e, hx⟩ := Kd.at_int hC 0 (by omega) (by omega)
  cases e
  simp only [Int.toNat_zero, Addr.add_zero'] at hx
  unfold World.cell? at hx
  rw [hg] at hx
  dsimp only at hx
  split at hx
  · cases hx
  · rcases h0 : ad.off with _ | _ | o
    · rw [h0] at hx; simp at hx
    · rw [h0] at hx; simp at hx
    · rw [h0] at hx; simp at hx
theorem tk_ne {W : World} {t h : Nat} {m : Mc} (k : TK W t h m) : h ≠ t := by
  obtain ⟨A, c, hg, _, _⟩ := k.rd
  rintro rfl
  have h1 := k.blk
  rw [hg] at h1
  injection h1 with h1
  injection h1 with h1
  exact absurd (congrArg Array.size h1) (by simp)
theorem RD.setT {W : World} {t h : Nat} {l : List Int} {P : Option Addr} {bad : Bool} (hg : W.heap[t]? = some (.cells #[.pointer P, .bool bad] 77 (0, 0))) (hne : h ≠ t) (k : RD W h l) (j : Nat) (u : Value) : RD (W.setCell ⟨t, j, none⟩ u) h l := by
  obtain ⟨A, c, h1, h2, h3, h4⟩ := k
  exact ⟨A, c, blk_far h1 (p := ⟨t, j, none⟩) hne _, h2, C_setCell' j h3 (fun _ _ h => h) (tk_apart hg h3), h4⟩
theorem tk_bad {W : World} {t h : Nat} {m : Mc} (k : TK W t h m) (b : Bool) : TK (W.setCell ⟨t, 1, none⟩ (.bool b)) t h ⟨m.rest, b⟩ := by
  refine ⟨?_, k.rd.setT k.blk (tk_ne k) 1 _, k.bytes⟩
  have := blk_put k.blk 1 (.bool b) rfl
  simpa using this
set_option maxRecDepth 20000
theorem RD.heap {W : World} {t h : Nat} {l l2 : List Int} {P : Option Addr} {bad : Bool} (hg : W.heap[t]? = some (.cells #[.pointer P, .bool bad] 77 (0, 0))) (hne : h ≠ t) (v : Value) : (W.setCell ⟨h, 0, none⟩ v).heap[t]? = some (.cells #[.pointer P, .bool bad] 77 (0, 0)) :=
  blk_far hg (p := ⟨h, 0, none⟩) (fun e => hne e.symm) _
set_option maxHeartbeats 2000000 in
theorem tnum_any (t h : Nat) (m : Mc) (most : Int) (h0 : 0 ≤ most) (h1 : most ≤ 4294967295) (w : World) (k : TK w t h m) :
    Calls Try.prog 31 #[.pointer (some ⟨t, 0, none⟩), .int .i64 most] w fun e w' => e = .returned (.int .i64 (numM most m).1) ∧ TK w' t h (numM most m).2 ∧ Keep2 t h w w' := by
  obtain ⟨l0, bd⟩ := m
  have hw : IntKind.u64.wrap most = most := by simp [IntKind.wrap, IntKind.bits, IntKind.signed]; omega
  have d0 := blk_cell k.blk 0
  have HK := Aside0.mk k
  have HNE := Aside0.mk (tk_ne k)
  by_cases c : (nextS l0).2 ≠ 0 ∧ (nextS l0).1 ≤ most
  · have HM := Aside0.mk (show numM most ⟨l0, bd⟩ = ((nextS l0).1, ⟨l0.drop (nextS l0).2, bd⟩) from by unfold numM; rw [if_pos c])
    have hn := number_yes h l0 most w k.rd k.bytes c.1 c.2
    have HB := (put_nextS l0 k.bytes c.1).2
    have HLE := c.2
    rw [HM.out]
    have HBY := Aside0.mk (bytes_drop k.bytes (nextS l0).2)
    generalize (nextS l0).1 = n at *
    generalize l0.drop (nextS l0).2 = r at *
    have hwn : wrap64 n = n := by unfold wrap64; omega
    have hwn2 : IntKind.i64.wrap n = n := by rw [IntKind.wrap_i64]; omega
    clear c k HM
    go_enter Try.func31, Try.ntmps31
    go_wp2_with fail
    refine hn.mono ?_
    rintro e w1 ⟨rfl, v, rfl, hrd⟩
    have HT1 := Aside0.mk (show TK (w.setCell ⟨h, 0, none⟩ v) t h ⟨r, bd⟩ from ⟨RD.heap (l := r) (l2 := r) HK.out.blk HNE.out v, hrd, HBY.out⟩)
    have HK1 := Aside0.mk ((Keep2.refl t h w).set2 0 v)
    clear hn hrd d0 HB HLE
    generalize w.setCell ⟨h, 0, none⟩ v = w1 at *
    have d1 := blk_cell HT1.out.blk 1
    have f1 := blk_frozen HT1.out.blk 1
    simp only [] at d1 f1
    cases bd with
    | true =>
      go_wp2_with fail
      go_ret
      exact ⟨rfl, tk_bad HT1.out true, HK1.out.set1 1 _⟩
    | false =>
      go_wp2_with fail
      go_ret
      exact ⟨rfl, tk_bad HT1.out false, HK1.out.set1 1 _⟩
  · have HM := Aside0.mk (show numM most ⟨l0, bd⟩ = (0, ⟨l0, true⟩) from by unfold numM; rw [if_neg c])
    have hn := number_no h l0 most w k.rd k.bytes (by
      by_cases c1 : (nextS l0).2 = 0
      · exact .inl c1
      · right
        rcases Int.lt_or_le most (nextS l0).1 with h | h
        · exact h
        · exact absurd ⟨c1, h⟩ c)
    rw [HM.out]
    have d1 := blk_cell k.blk 1
    have f1 := blk_frozen k.blk 1
    clear c k HM
    go_enter Try.func31, Try.ntmps31
    go_wp2_with fail
    refine hn.mono ?_
    rintro e w1 ⟨rfl, rfl⟩
    clear hn d0
    cases bd with
    | true =>
      go_wp2_with fail
      go_ret
      exact ⟨rfl, tk_bad HK.out true, (Keep2.refl t h w).set1 1 _⟩
    | false =>
      go_wp2_with fail
      go_ret
      exact ⟨rfl, tk_bad HK.out true, (Keep2.refl t h w).set1 1 _⟩
set_option maxHeartbeats 2000000 in
theorem ttext_any (t h : Nat) (m : Mc) (w : World) (k : TK w t h m) :
    Calls Try.prog 32 #[.pointer (some ⟨t, 0, none⟩)] w fun e w' => e = .returned (.string (textM 40 m).1) ∧ TK w' t h (textM 40 m).2 ∧ Keep2 t h w w' := by
  obtain ⟨l0, bd⟩ := m
  have d0 := blk_cell k.blk 0
  have HK := Aside0.mk k
  have HNE := Aside0.mk (tk_ne k)
  have hbd : 0 ≤ (nextS l0).1 ∧ (nextS l0).1 < 18446744073709551616 := by
    by_cases c1 : (nextS l0).2 = 0
    · have := nextS_zero l0 c1
      rw [this]; omega
    · exact (put_nextS l0 k.bytes c1).2
  by_cases c : (nextS l0).2 ≠ 0 ∧ (nextS l0).1 ≤ 40 ∧ (nextS l0).1 ≤ (l0.length : Int) - (nextS l0).2
  · have HM := Aside0.mk (show textM 40 ⟨l0, bd⟩ = (strOfNums ((l0.take ((nextS l0).2 + (nextS l0).1.toNat)).drop (nextS l0).2), ⟨l0.drop ((nextS l0).2 + (nextS l0).1.toNat), bd⟩) from by unfold textM; rw [if_pos c])
    have hn := text_yes h l0 40 w k.rd k.bytes (by omega) hbd.1 c.1 (by omega) c.2.1 c.2.2
    rw [HM.out]
    have HBY := Aside0.mk (bytes_drop k.bytes ((nextS l0).2 + (nextS l0).1.toNat))
    generalize strOfNums ((l0.take ((nextS l0).2 + (nextS l0).1.toNat)).drop (nextS l0).2) = s at *
    generalize l0.drop ((nextS l0).2 + (nextS l0).1.toNat) = r at *
    clear c k HM hbd
    go_enter Try.func32, Try.ntmps32
    go_wp2_with fail
    refine hn.mono ?_
    rintro e w1 ⟨rfl, v, rfl, hrd⟩
    have HT1 := Aside0.mk (show TK (w.setCell ⟨h, 0, none⟩ v) t h ⟨r, bd⟩ from ⟨RD.heap (l := r) (l2 := r) HK.out.blk HNE.out v, hrd, HBY.out⟩)
    have HK1 := Aside0.mk ((Keep2.refl t h w).set2 0 v)
    clear hn hrd d0
    generalize w.setCell ⟨h, 0, none⟩ v = w1 at *
    have d1 := blk_cell HT1.out.blk 1
    have f1 := blk_frozen HT1.out.blk 1
    simp only [] at d1 f1
    cases bd with
    | true =>
      go_wp2_with fail
      go_ret
      exact ⟨rfl, tk_bad HT1.out true, HK1.out.set1 1 _⟩
    | false =>
      go_wp2_with fail
      go_ret
      exact ⟨rfl, tk_bad HT1.out false, HK1.out.set1 1 _⟩
  · have HM := Aside0.mk (show textM 40 ⟨l0, bd⟩ = (⟨#[]⟩, ⟨l0, true⟩) from by unfold textM; rw [if_neg c])
    have hn := text_no h l0 40 w k.rd k.bytes (by omega) hbd.1 hbd.2 (by
      by_cases c1 : (nextS l0).2 = 0
      · exact .inl c1
      · by_cases c2 : (nextS l0).1 ≤ 40
        · by_cases c3 : (nextS l0).1 ≤ (l0.length : Int) - (nextS l0).2
          · exact absurd ⟨c1, c2, c3⟩ c
          · exact .inr (.inr (.inr (by omega)))
        · exact .inr (.inr (.inl (by omega))))
    rw [HM.out]
    have d1 := blk_cell k.blk 1
    have f1 := blk_frozen k.blk 1
    clear c k HM hbd
    go_enter Try.func32, Try.ntmps32
    go_wp2_with fail
    refine hn.mono ?_
    rintro e w1 ⟨rfl, rfl⟩
    clear hn d0
    cases bd with
    | true =>
      go_wp2_with fail
      go_ret
      exact ⟨rfl, tk_bad HK.out true, (Keep2.refl t h w).set1 1 _⟩
    | false =>
      go_wp2_with fail
      go_ret
      exact ⟨rfl, tk_bad HK.out true, (Keep2.refl t h w).set1 1 _⟩
end Go.Proofs.Ytpaknjmcjblahaa.H
