/- Num4, Num5. -/
import Derived.Test.YtpaknjmcjblahaaENum3
/-! ### Num4 -/
namespace Go.Proofs.Ytpaknjmcjblahaa.H
open Go.RowKit Go.Proofs.Ytpaknjmcjblahaa.P Go.Proofs.YtpaknjmcjblahaaW.PrintWords Go.Proofs.YtpaknjmcjblahaaW.PrintLast Go.Proofs.YtpaknjmcjblahaaW.PrintMore
set_option linter.unusedVariables false
set_option linter.unusedSimpArgs false
def BL (A : Option Addr) (n g : Nat) : Prop := ∀ ad, A = some ad → 0 < n → ad.block < g
theorem C_moves {W W' : World} {B : Option Addr} {n : Nat} {m : List Int} (hC : Kd.C (Kd.int .u8) W B n m) (h : ∀ ad, B = some ad → 0 < n → W'.heap[ad.block]? = W.heap[ad.block]?) : Kd.C (Kd.int .u8) W' B n m := by
  refine ⟨hC.1, hC.2.1, fun hn => ?_⟩
  obtain ⟨ad, e, hc⟩ := hC.2.2 hn
  refine ⟨ad, e, fun j p hj => ?_⟩
  obtain ⟨c, h1, h2, h3⟩ := hc j p hj
  refine ⟨c, h1, h2, fun i u hu => ?_⟩
  rw [← h3 i u hu]
  have hb : (ad.add (j * (Kd.int .u8).sz + i)).block = ad.block := by unfold Addr.add; split <;> rfl
  exact World.cell?_of_block (w := W) (by rw [hb]; exact h ad e hn)
theorem BL_of {W : World} {B : Option Addr} {n : Nat} {m : List Int} (hC : Kd.C (Kd.int .u8) W B n m) : BL B n W.heap.size := by
  rintro ad rfl hn
  obtain ⟨ad', e, hx⟩ := Kd.at_int hC 0 (by omega) (by omega)
  cases e
  simp only [Int.toNat_zero, Addr.add_zero'] at hx
  rcases Nat.lt_or_ge ad.block W.heap.size with h | h
  · exact h
  · unfold World.cell? at hx
    rw [Array.getElem?_eq_none h] at hx
    simp at hx
def lowW (w : World) (g : Nat) : World := { w with heap := w.heap.extract 0 g }
theorem BL_drop {w : World} {g : Nat} {A A' : Option Addr} {l l' : List Int} (hC : Kd.C (Kd.int .u8) w A l.length l) (hB : BL A l.length g)
    (h : ∀ w : World, ReadsOf (Value.int .u8) 0 w A l.length l → ReadsOf (Value.int .u8) 0 w A' l'.length l') : BL A' l'.length g := by
  have h1 : Kd.C (Kd.int .u8) (lowW w g) A l.length l := C_moves hC (fun ad e hn => by
    have := hB ad e hn
    unfold lowW
    simp [Array.getElem?_extract]
    omega)
  have h2 := BL_of (Kd.C_of_reads (h1 := fun _ => rfl) (h _ (Kd.reads_of_C (enc := Value.int .u8) (d := (0 : Int)) (h1 := fun _ => rfl) h1)))
  intro ad e hn
  have h3 := h2 ad e hn
  have h4 : (lowW w g).heap.size ≤ g := by unfold lowW; simp; omega
  omega
def RD (w : World) (g : Nat) (l : List Int) : Prop :=
  ∃ A c, w.heap[g]? = some (.cells #[.slice A l.length c] 101 (0, 0)) ∧ l.length ≤ c ∧ Kd.C (Kd.int .u8) w A l.length l ∧ BL A l.length g
theorem nextS_le (l : List Int) : (nextS l).2 ≤ l.length := by
  unfold nextS
  split
  · simp
  · split
    · simp
    · split
      · simp
      · split
        · simp
        · simp; omega
theorem left_any (g : Nat) (l : List Int) (w : World) (h : RD w g l) : Calls Try.prog 34 #[.pointer (some ⟨g, 0, none⟩)] w fun e w' => e = .returned (.int .i64 l.length) ∧ w = w' := by
  obtain ⟨A, c, hg, hc, hr⟩ := h
  have hcell := blk_cell hg 0
  simp only [List.getElem?_toArray, List.getElem?_cons_zero] at hcell
  have HG := Aside0.mk hg
  clear hg hr
  go_enter Try.func34, Try.ntmps34
  go_wp2
  go_ret
  exact ⟨rfl, rfl⟩
theorem C_setCell {α : Type} {K : Kd α} {w : World} {A : Option Addr} {n : Nat} {l : List α} {g : Nat} {v : Value} {cs : Array Value} {t : TypeId} (h : K.C w A n l) (hg : w.heap[g]? = some (.cells cs t (0, 0))) (hK : ∀ x c, K.K w x c → K.K (w.setCell ⟨g, 0, none⟩ v) x c) (hne : ∀ ad, A = some ad → 0 < n → ad.block ≠ g) : K.C (w.setCell ⟨g, 0, none⟩ v) A n l := by
  refine ⟨h.1, h.2.1, fun hn => ?_⟩
  obtain ⟨ad, e, hc⟩ := h.2.2 hn
  refine ⟨ad, e, fun j p hj => ?_⟩
  obtain ⟨c, h1, h2, h3⟩ := hc j p hj
  refine ⟨c, h1, hK p c h2, fun i u hu => ?_⟩
  rw [← h3 i u hu]
  have hb : (ad.add (j * K.sz + i)).block = ad.block := by unfold Addr.add; split <;> rfl
  have hne' := hne ad e hn
  exact World.cell?_of_block (w := w) (by rw [hb]; exact Below.heap_setCell w _ _ _ hne')
theorem RD.apart {w : World} {g : Nat} {l : List Int} {A : Option Addr} {c n : Nat} {m : List Int} (hg : w.heap[g]? = some (.cells #[.slice A l.length c] 101 (0, 0))) {B : Option Addr} (h : Kd.C (Kd.int .u8) w B n m) : ∀ ad, B = some ad → 0 < n → ad.block ≠ g := by
  rintro ad rfl hn rfl
  obtain ⟨ad', e, hx⟩ := Kd.at_int h 0 (by omega) (by omega)
  cases e
  simp only [Int.toNat_zero, Addr.add_zero'] at hx
  unfold World.cell? at hx
  rw [hg] at hx
  dsimp only at hx
  split at hx
  · cases hx
  · rcases h0 : ad.off with _ | o
    · rw [h0] at hx; simp at hx
    · rw [h0] at hx; simp at hx
theorem number_no (g : Nat) (l : List Int) (m : Int) (w : World) (h : RD w g l) (hb : bytes l) (hn : (nextS l).2 = 0 ∨ m < (nextS l).1) :
    Calls Try.prog 55 #[.pointer (some ⟨g, 0, none⟩), .int .u64 m] w fun e w' => e = .returned (.tuple #[.int .u64 0, .int .i64 11]) ∧ w = w' := by
  obtain ⟨A, c, hg, hc, hr, _⟩ := h
  have hcell := blk_cell hg 0
  simp only [List.getElem?_toArray, List.getElem?_cons_zero] at hcell
  have hN := next_any A c l w hr hc hb
  generalize (nextS l).1 = n at *
  generalize (nextS l).2 = k at *
  have HN := Aside0.mk hN
  clear hN hg hr
  by_cases hk : k = 0
  · subst hk
    go_enter Try.func55, Try.ntmps55
    go_wp2_with (go_at_call 65; refine HN.out.mono ?_; rintro e w' ⟨rfl, rfl⟩)
    go_ret2
    exact ⟨rfl, rfl⟩
  · have hm : m < n := by omega
    have hk' : ((k : Int) == 0) = false := by simpa using hk
    go_enter Try.func55, Try.ntmps55
    go_wp2_with (go_at_call 65; refine HN.out.mono ?_; rintro e w' ⟨rfl, rfl⟩)
    go_ret2
    exact ⟨rfl, rfl⟩
theorem number_yes (g : Nat) (l : List Int) (m : Int) (w : World) (h : RD w g l) (hb : bytes l) (h1 : (nextS l).2 ≠ 0) (h2 : (nextS l).1 ≤ m) :
    Calls Try.prog 55 #[.pointer (some ⟨g, 0, none⟩), .int .u64 m] w fun e w' => e = .returned (.tuple #[.int .u64 (nextS l).1, .int .i64 0]) ∧ ∃ v, w' = w.setCell ⟨g, 0, none⟩ v ∧ RD w' g (l.drop (nextS l).2) := by
  have hle := nextS_le l
  obtain ⟨A, c, hg, hc, hr, hbl⟩ := h
  have hcell := blk_cell hg 0
  have hfr := blk_frozen hg 0
  simp only [List.getElem?_toArray, List.getElem?_cons_zero] at hcell
  have hN := next_any A c l w hr hc hb
  obtain ⟨i0, hi, hz0, hz1, hz2⟩ := info_parts info5
  obtain ⟨A', hcut, hrd, hcc⟩ := print_drop_of (P := Try.prog) (Value.int .u8) 0 37 5 .i64 Try.underlying37 hi hz1 A c l ((nextS l).2 : Int) (by omega) (by omega) hc
  rw [Int.toNat_natCast] at hcut hrd hcc
  have HBL := Aside0.mk (BL_drop hr hbl hrd)
  clear hbl
  generalize (nextS l).1 = n at *
  generalize (nextS l).2 = k at *
  have HN := Aside0.mk hN
  have HR' := Aside0.mk (Kd.reads_of_C (enc := Value.int .u8) (d := (0 : Int)) (h1 := fun _ => rfl) hr)
  have HG := Aside0.mk hg
  have HD := Aside0.mk hrd
  have hk' : ((k : Int) == 0) = false := by simpa using h1
  clear hN hg hr hrd hi hz0 hz1 hz2
  go_enter Try.func55, Try.ntmps55
  go_wp2_with (go_at_call 65; refine HN.out.mono ?_; rintro e w' ⟨rfl, rfl⟩)
  go_ret2
  refine ⟨rfl, _, rfl, A', c - k, ?_, hcc, ?_, HBL.out⟩
  · have e := blk_set HG.out 0 (.slice A' (l.drop k).length (c - k))
    simpa using e
  · exact C_setCell (Kd.C_of_reads (h1 := fun _ => rfl) (HD.out w HR'.out)) HG.out (fun _ _ h => h) (RD.apart HG.out (Kd.C_of_reads (h1 := fun _ => rfl) (HD.out w HR'.out)))
end Go.Proofs.Ytpaknjmcjblahaa.H
/-! ### Num5 -/
namespace Go.Proofs.Ytpaknjmcjblahaa.H
open Go.RowKit Go.Proofs.Ytpaknjmcjblahaa.P Go.Proofs.YtpaknjmcjblahaaW.PrintWords Go.Proofs.YtpaknjmcjblahaaW.PrintLast Go.Proofs.YtpaknjmcjblahaaW.PrintMore
set_option linter.unusedVariables false
set_option maxRecDepth 20000
set_option linter.unusedSimpArgs false
theorem text_no (g : Nat) (l : List Int) (m : Int) (w : World) (h : RD w g l) (hb : bytes l) (hm : m ≤ 9223372036854775807) (hn0 : 0 ≤ (nextS l).1) (hn1 : (nextS l).1 < 18446744073709551616)
    (hn : (nextS l).2 = 0 ∨ m < 0 ∨ m < (nextS l).1 ∨ (l.length : Int) - (nextS l).2 < (nextS l).1) :
    Calls Try.prog 56 #[.pointer (some ⟨g, 0, none⟩), .int .i64 m] w fun e w' => e = .returned (.tuple #[.string ⟨#[]⟩, .int .i64 11]) ∧ w = w' := by
  have hle := nextS_le l
  obtain ⟨A, c, hg, hc, hr, _⟩ := h
  have hll := Kd.C_max hr
  have hcell := blk_cell hg 0
  simp only [List.getElem?_toArray, List.getElem?_cons_zero] at hcell
  have hN := next_any A c l w hr hc hb
  generalize (nextS l).1 = n at *
  generalize (nextS l).2 = k at *
  have HN := Aside0.mk hN
  have H1 := Aside0.mk hn1
  clear hN hg hr hn1
  by_cases hk : k = 0
  · subst hk
    go_enter Try.func56, Try.ntmps56
    go_wp2_with (go_at_call 65; refine HN.out.mono ?_; rintro e w' ⟨rfl, rfl⟩)
    go_ret2
    exact ⟨rfl, rfl⟩
  · have hk' : ((k : Int) == 0) = false := by simpa using hk
    by_cases hm0 : m < 0
    · have hm0' : decide (m < 0) = true := by simpa using hm0
      go_enter Try.func56, Try.ntmps56
      go_wp2_with (go_at_call 65; refine HN.out.mono ?_; rintro e w' ⟨rfl, rfl⟩)
      go_ret2
      exact ⟨rfl, rfl⟩
    · have hm0' : decide (m < 0) = false := by simpa using hm0
      by_cases hm1 : m < n
      · have hm1' : decide (m < n) = true := by simpa using hm1
        go_enter Try.func56, Try.ntmps56
        go_wp2_with (go_at_call 65; refine HN.out.mono ?_; rintro e w' ⟨rfl, rfl⟩)
        go_ret2
        exact ⟨rfl, rfl⟩
      · have hm1' : decide (m < n) = false := by simpa using hm1
        have hm2 : (l.length : Int) - k < n := by omega
        have hm2' : decide ((l.length : Int) - k < n) = true := by simpa using hm2
        have hkl : (k : Int) ≤ l.length := by omega
        go_enter Try.func56, Try.ntmps56
        go_wp2_with (go_at_call 65; refine HN.out.mono ?_; rintro e w' ⟨rfl, rfl⟩)
        go_ret2
        exact ⟨rfl, rfl⟩
theorem text_yes (g : Nat) (l : List Int) (m : Int) (w : World) (h : RD w g l) (hb : bytes l) (hm : m ≤ 9223372036854775807) (hn0 : 0 ≤ (nextS l).1)
    (h1 : (nextS l).2 ≠ 0) (h2 : 0 ≤ m) (h3 : (nextS l).1 ≤ m) (h4 : (nextS l).1 ≤ (l.length : Int) - (nextS l).2) :
    Calls Try.prog 56 #[.pointer (some ⟨g, 0, none⟩), .int .i64 m] w fun e w' => e = .returned (.tuple #[.string (strOfNums ((l.take ((nextS l).2 + (nextS l).1.toNat)).drop (nextS l).2)), .int .i64 0]) ∧ ∃ v, w' = w.setCell ⟨g, 0, none⟩ v ∧ RD w' g (l.drop ((nextS l).2 + (nextS l).1.toNat)) := by
  have hle := nextS_le l
  obtain ⟨A, c, hg, hc, hr, hbl⟩ := h
  have hll := Kd.C_max hr
  have hcell := blk_cell hg 0
  have hfr := blk_frozen hg 0
  simp only [List.getElem?_toArray, List.getElem?_cons_zero] at hcell
  have hN := next_any A c l w hr hc hb
  obtain ⟨i0, hi, hz0, hz1, hz2⟩ := info_parts info5
  generalize (nextS l).1 = n at *
  generalize (nextS l).2 = k at *
  obtain ⟨n, rfl⟩ := Int.eq_ofNat_of_zero_le hn0
  rw [Int.toNat_natCast]
  obtain ⟨A', hcut, hrd, hcc⟩ := print_drop_of (P := Try.prog) (Value.int .u8) 0 37 5 .i64 Try.underlying37 hi hz1 A c l ((k : Int) + n) (by omega) (by omega) hc
  obtain ⟨A2, hcut2, hrd2, hcc2⟩ := print_mid_of (P := Try.prog) (Value.int .u8) 0 37 5 .i64 .i64 Try.underlying37 hi hz1 A c l (k : Int) ((k : Int) + n) (by omega) (by omega) (by omega) hc
  rw [show ((k : Int) + n).toNat = k + n by omega] at hcut hrd hcc hcut2 hrd2 hcc2
  rw [Int.toNat_natCast] at hcut2 hrd2 hcc2
  have HBL := Aside0.mk (BL_drop hr hbl hrd)
  clear hbl
  have HN := Aside0.mk hN
  have HR' := Aside0.mk (Kd.reads_of_C (enc := Value.int .u8) (d := (0 : Int)) (h1 := fun _ => rfl) hr)
  have HG := Aside0.mk hg
  have HD := Aside0.mk hrd
  have hstr := Kd.C_string (P := Try.prog) (src := 37) (dst := 9) (c := c - k) Try.underlying37 Try.underlying5 Try.underlying9 (Kd.C_of_reads (h1 := fun _ => rfl) (hrd2 w HR'.out))
  generalize strOfNums ((l.take (k + n)).drop k) = S at *
  generalize ((l.take (k + n)).drop k) = M at *
  have hk' : ((k : Int) == 0) = false := by simpa using h1
  have hkl : (k : Int) ≤ l.length := by omega
  clear hN hg hr hrd hi hz0 hz1 hz2 hrd2 hcc2
  go_enter Try.func56, Try.ntmps56
  go_wp2_with (go_at_call 65; refine HN.out.mono ?_; rintro e w' ⟨rfl, rfl⟩)
  go_ret2
  refine ⟨rfl, _, rfl, A', c - (k + n), ?_, hcc, ?_, HBL.out⟩
  · have e := blk_set HG.out 0 (.slice A' (l.drop (k + n)).length (c - (k + n)))
    simpa using e
  · exact C_setCell (Kd.C_of_reads (h1 := fun _ => rfl) (HD.out w HR'.out)) HG.out (fun _ _ h => h) (RD.apart HG.out (Kd.C_of_reads (h1 := fun _ => rfl) (HD.out w HR'.out)))
end Go.Proofs.Ytpaknjmcjblahaa.H
