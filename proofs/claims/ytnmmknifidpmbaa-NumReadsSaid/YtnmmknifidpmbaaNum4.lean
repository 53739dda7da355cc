import Derived.Test.YtnmmknifidpmbaaNum3
namespace Go.Proofs.Ytnmmknifidpmbaa.H
open Go.RowKit Go.Proofs.Ytnmmknifidpmbaa.P Go.Proofs.YtnmmknifidpmbaaW.PrintWords Go.Proofs.YtnmmknifidpmbaaW.PrintLast Go.Proofs.YtnmmknifidpmbaaW.PrintMore
set_option linter.unusedVariables false
set_option linter.unusedSimpArgs false

/-- Block g is a reader that has the bytes l left. -/
def RD (w : World) (g : Nat) (l : List Int) : Prop :=
  ∃ A c, w.heap[g]? = some (.cells #[.slice A l.length c] 52 (0, 0)) ∧ l.length ≤ c ∧ Kd.C (Kd.int .u8) w A l.length l

theorem nextS_le (l : List Int) : (nextS l).2 ≤ l.length := by
  unfold nextS
  split
  · simp
  · split
    · simp
    · split
      · simp
      · split
        · simp
        · simp; omega

theorem left_any (g : Nat) (l : List Int) (w : World) (h : RD w g l) : Calls Try.prog 19 #[.pointer (some ⟨g, 0, none⟩)] w fun e w' => e = .returned (.int .i64 l.length) ∧ w = w' := by
  obtain ⟨A, c, hg, hc, hr⟩ := h
  have hcell := blk_cell hg 0
  simp only [List.getElem?_toArray, List.getElem?_cons_zero] at hcell
  have HG := Aside0.mk hg
  clear hg hr
  go_enter Try.func19, Try.ntmps19
  go_wp2
  go_ret
  exact ⟨rfl, rfl⟩
theorem left_nil (w : World) : Calls Try.prog 19 #[.pointer none] w fun e w' => e = .returned (.int .i64 0) ∧ w = w' := by
  go_enter Try.func19, Try.ntmps19
  go_wp2
  go_ret
  exact ⟨rfl, rfl⟩
theorem number_nil (m : Int) (w : World) : Calls Try.prog 15 #[.pointer none, .int .u64 m] w fun e w' => e = .returned (.tuple #[.int .u64 0, .int .i64 1]) ∧ w = w' := by
  go_enter Try.func15, Try.ntmps15
  go_wp2
  go_ret2
  exact ⟨rfl, rfl⟩
theorem text_nil (m : Int) (w : World) : Calls Try.prog 17 #[.pointer none, .int .i64 m] w fun e w' => e = .returned (.tuple #[.string ⟨#[]⟩, .int .i64 1]) ∧ w = w' := by
  go_enter Try.func17, Try.ntmps17
  go_wp2
  go_ret2
  exact ⟨rfl, rfl⟩

theorem C_setCell {α : Type} {K : Kd α} {w : World} {A : Option Addr} {n : Nat} {l : List α} {g : Nat} {v : Value} {cs : Array Value} {t : TypeId} (h : K.C w A n l) (hg : w.heap[g]? = some (.cells cs t (0, 0))) (hK : ∀ x c, K.K w x c → K.K (w.setCell ⟨g, 0, none⟩ v) x c) (hne : ∀ ad, A = some ad → 0 < n → ad.block ≠ g) : K.C (w.setCell ⟨g, 0, none⟩ v) A n l := by
  refine ⟨h.1, h.2.1, fun hn => ?_⟩
  obtain ⟨ad, e, hc⟩ := h.2.2 hn
  refine ⟨ad, e, fun j p hj => ?_⟩
  obtain ⟨c, h1, h2, h3⟩ := hc j p hj
  refine ⟨c, h1, hK p c h2, fun i u hu => ?_⟩
  rw [← h3 i u hu]
  have hb : (ad.add (j * K.sz + i)).block = ad.block := by unfold Addr.add; split <;> rfl
  have hne' := hne ad e hn
  exact World.cell?_of_block (w := w) (by rw [hb]; exact Below.heap_setCell w _ _ _ hne')

theorem RD.apart {w : World} {g : Nat} {l : List Int} {A : Option Addr} {c n : Nat} {m : List Int} (hg : w.heap[g]? = some (.cells #[.slice A l.length c] 52 (0, 0))) {B : Option Addr} (h : Kd.C (Kd.int .u8) w B n m) : ∀ ad, B = some ad → 0 < n → ad.block ≠ g := by
  rintro ad rfl hn rfl
  obtain ⟨ad', e, hx⟩ := Kd.at_int h 0 (by omega) (by omega)
  cases e
  simp only [Int.toNat_zero, Addr.add_zero'] at hx
  unfold World.cell? at hx
  rw [hg] at hx
  dsimp only at hx
  split at hx
  · cases hx
  · rcases h0 : ad.off with _ | o
    · rw [h0] at hx; simp at hx
    · rw [h0] at hx; simp at hx

theorem number_no (g : Nat) (l : List Int) (m : Int) (w : World) (h : RD w g l) (hb : bytes l) (hn : (nextS l).2 = 0 ∨ m < (nextS l).1) :
    Calls Try.prog 15 #[.pointer (some ⟨g, 0, none⟩), .int .u64 m] w fun e w' => e = .returned (.tuple #[.int .u64 0, .int .i64 11]) ∧ w = w' := by
  obtain ⟨A, c, hg, hc, hr⟩ := h
  have hcell := blk_cell hg 0
  simp only [List.getElem?_toArray, List.getElem?_cons_zero] at hcell
  have hN := next_any A c l w hr hc hb
  generalize (nextS l).1 = n at *
  generalize (nextS l).2 = k at *
  have HN := Aside0.mk hN
  clear hN hg hr
  by_cases hk : k = 0
  · subst hk
    go_enter Try.func15, Try.ntmps15
    go_wp2_with (go_at_call 22; refine HN.out.mono ?_; rintro e w' ⟨rfl, rfl⟩)
    go_ret2
    exact ⟨rfl, rfl⟩
  · have hm : m < n := by omega
    have hk' : ((k : Int) == 0) = false := by simpa using hk
    go_enter Try.func15, Try.ntmps15
    go_wp2_with (go_at_call 22; refine HN.out.mono ?_; rintro e w' ⟨rfl, rfl⟩)
    go_ret2
    exact ⟨rfl, rfl⟩
theorem number_yes (g : Nat) (l : List Int) (m : Int) (w : World) (h : RD w g l) (hb : bytes l) (h1 : (nextS l).2 ≠ 0) (h2 : (nextS l).1 ≤ m) :
    Calls Try.prog 15 #[.pointer (some ⟨g, 0, none⟩), .int .u64 m] w fun e w' => e = .returned (.tuple #[.int .u64 (nextS l).1, .int .i64 0]) ∧ ∃ v, w' = w.setCell ⟨g, 0, none⟩ v ∧ RD w' g (l.drop (nextS l).2) := by
  have hle := nextS_le l
  obtain ⟨A, c, hg, hc, hr⟩ := h
  have hcell := blk_cell hg 0
  have hfr := blk_frozen hg 0
  simp only [List.getElem?_toArray, List.getElem?_cons_zero] at hcell
  have hN := next_any A c l w hr hc hb
  obtain ⟨i0, hi, hz0, hz1, hz2⟩ := info_parts info5
  obtain ⟨A', hcut, hrd, hcc⟩ := print_drop_of (P := Try.prog) (Value.int .u8) 0 23 5 .i64 Try.underlying23 hi hz1 A c l ((nextS l).2 : Int) (by omega) (by omega) hc
  rw [Int.toNat_natCast] at hcut hrd hcc
  generalize (nextS l).1 = n at *
  generalize (nextS l).2 = k at *
  have HN := Aside0.mk hN
  have HR' := Aside0.mk (Kd.reads_of_C (enc := Value.int .u8) (d := (0 : Int)) (h1 := fun _ => rfl) hr)
  have HG := Aside0.mk hg
  have HD := Aside0.mk hrd
  have hk' : ((k : Int) == 0) = false := by simpa using h1
  clear hN hg hr hrd hi hz0 hz1 hz2
  go_enter Try.func15, Try.ntmps15
  go_wp2_with (go_at_call 22; refine HN.out.mono ?_; rintro e w' ⟨rfl, rfl⟩)
  go_ret2
  refine ⟨rfl, _, rfl, A', c - k, ?_, hcc, ?_⟩
  · have e := blk_set HG.out 0 (.slice A' (l.drop k).length (c - k))
    simpa using e
  · exact C_setCell (Kd.C_of_reads (h1 := fun _ => rfl) (HD.out w HR'.out)) HG.out (fun _ _ h => h) (RD.apart HG.out (Kd.C_of_reads (h1 := fun _ => rfl) (HD.out w HR'.out)))
end Go.Proofs.Ytnmmknifidpmbaa.H
