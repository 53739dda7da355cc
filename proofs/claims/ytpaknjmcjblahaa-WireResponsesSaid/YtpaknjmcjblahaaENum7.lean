/- Num6, Num7. -/
import Derived.Test.YtpaknjmcjblahaaENum5
import Derived.Lib.SliceRun
/-! ### Num6 -/
namespace Go.Proofs.Ytpaknjmcjblahaa.H
open Go.RowKit Go.Proofs.Ytpaknjmcjblahaa.P Go.Proofs.YtpaknjmcjblahaaW.PrintWords Go.Proofs.YtpaknjmcjblahaaW.PrintLast Go.Proofs.YtpaknjmcjblahaaW.PrintMore
set_option linter.unusedVariables false
set_option maxRecDepth 20000
set_option linter.unusedSimpArgs false
theorem clone_any (A : Option Addr) (c : Nat) (l : List Int) (w : World) (hr : Kd.C (Kd.int .u8) w A l.length l) (hc : l.length ≤ c) (hl : l.length < 140737488355328) :
    Calls Try.prog 54 #[.slice A l.length c] w fun e w' => ∃ v, e = .returned v ∧ w'.ownsRow w.heap.size 5 1 v l.length (nums .u8 l) ∧ Below w.heap.size w w' := by
  obtain ⟨i0, hi, hz0, hz1, hz2⟩ := info_parts info5
  have q23 : ∀ (w : World) (a : Option Addr) (n c n' c' : Nat), (binOp .eql 37 (.slice a n c) (.slice none n' c')).run Try.prog w = .ok (.bool a.isNone) w := fun w a n c n' c' => Lib.run_eql_slice_nil w _ _ a n c n' c' Try.underlying37
  cases A with
  | none =>
    have hl0 : l = [] := by
      rcases Nat.eq_zero_or_pos l.length with h | h
      · exact List.eq_nil_of_length_eq_zero h
      · obtain ⟨ad, e, _⟩ := hr.2.2 h
        cases e
    subst hl0
    clear hr
    go_enter Try.func54, Try.ntmps54
    go_wp2
    go_ret
    exact ⟨_, rfl, own_nil _ _ _ _, Below.refl _ _⟩
  | some ad =>
    have HR := Aside0.mk hr
    clear hr
    go_enter Try.func54, Try.ntmps54
    go_wp2_with (first | (at_builtin; refine wpList_append_own _ rfl (.tmp 5) (.tmp 6) 37 rfl w.heap.size 5 i0 (.int .u8 0) 1 1 Try.underlying37 hi hz0 hz1 hz2 rfl (by decide) (.slice (some ⟨w.heap.size, 0, none⟩) 0 0) 0 [] rfl ⟨rfl, .inr ⟨w.heap.size, 0, #[], rfl, Nat.le_refl _, blk_new _ _, Nat.le_refl _, by decide, rfl, rfl⟩⟩ ad l.length c (nums .u8 l) rfl (by simp [nums]) (fun j u hu => reads_nums (Kd.C_alloc HR.out _) ad rfl j u hu) (fun u hu => ints_oneCell .u8 l u hu) (by unfold maxLen; omega) (by omega) (by simp) ?_; intro v2 w2 ho3 hg3 _))
    have hB2 := ((Below.refl w.heap.size w).alloc (Nat.le_refl _) (.cells #[] 5)).grown hg3 (by simp) (fun q hq => by simp [Value.ownBlock] at hq; omega)
    rw [Nat.zero_add, List.nil_append] at ho3
    clear hg3
    go_wp2
    go_ret
    exact ⟨_, rfl, ho3, hB2⟩
theorem open_any (A : Option Addr) (c : Nat) (l : List Int) (w : World) (hr : Kd.C (Kd.int .u8) w A l.length l) (hc : l.length ≤ c) (hl : l.length < 140737488355328) :
    Calls Try.prog 30 #[.slice A l.length c] w fun e w' => ∃ g, e = .returned (.pointer (some ⟨g, 0, none⟩)) ∧ RD w' g l ∧ w.heap.size ≤ g ∧ g < w'.heap.size ∧ Below w.heap.size w w' := by
  have HR := Aside0.mk hr
  clear hr
  go_enter Try.func30, Try.ntmps30
  go_wp2_with (go_at_call 54; refine (clone_any A c l w HR.out hc hl).mono ?_; rintro e w1 ⟨v, rfl, ho, hb⟩; obtain ⟨A1, c1, rfl, hc1, hr1⟩ := Kd.R_reads (Kd.R_of_own (enc := Value.int .u8) (h1 := fun _ => rfl) (ok := fun _ => True) ho (fun _ _ => trivial)); have HR1 := Aside0.mk hr1; have HB := Aside0.mk hb; clear hr1 ho hb)
  go_ret
  refine ⟨_, rfl, ⟨A1, c1, blk_new _ _, hc1, Kd.C_alloc HR1.out _, BL_of HR1.out⟩, HB.out.size, by simp, HB.out.alloc HB.out.size _⟩
end Go.Proofs.Ytpaknjmcjblahaa.H
/-! ### Num7 -/
namespace Go.Proofs.Ytpaknjmcjblahaa.H
open Go.RowKit Go.Proofs.Ytpaknjmcjblahaa.P Go.Proofs.YtpaknjmcjblahaaW.PrintWords Go.Proofs.YtpaknjmcjblahaaW.PrintLast Go.Proofs.YtpaknjmcjblahaaW.PrintMore
set_option linter.unusedVariables false
set_option maxRecDepth 20000
set_option linter.unusedSimpArgs false
def OwnBytes (base : Nat) (l : List Int) (e : Ending) (w' : World) : Prop :=
  ∃ A c, e = .returned (.slice A l.length c) ∧ l.length ≤ c ∧ w'.ownsRow base 5 1 (.slice A l.length c) l.length (nums .u8 l)
theorem OwnBytes.C {base : Nat} {l : List Int} {A : Option Addr} {c : Nat} {w' : World} (h : w'.ownsRow base 5 1 (.slice A l.length c) l.length (nums .u8 l)) : Kd.C (Kd.int .u8) w' A l.length l :=
  (Kd.R_reads' (Kd.R_of_own (enc := Value.int .u8) (h1 := fun _ => rfl) (ok := fun _ => True) h (fun _ _ => trivial))).2.2
theorem OwnBytes.mk {base : Nat} {l : List Int} {v : Value} {w' : World} (h : w'.ownsRow base 5 1 v l.length (nums .u8 l)) : OwnBytes base l (.returned v) w' := by
  obtain ⟨A1, c1, rfl, hc1, hr1⟩ := Kd.R_reads (Kd.R_of_own (enc := Value.int .u8) (h1 := fun _ => rfl) (ok := fun _ => True) h (fun _ _ => trivial))
  exact ⟨A1, c1, rfl, hc1, h⟩
theorem put_any (A0 : Option Addr) (c0 : Nat) (l0 : List Int) (a1 : Int) (w : World) (hr0 : Kd.C (Kd.int .u8) w A0 l0.length l0) (hc0 : l0.length ≤ c0) (h0 : 0 ≤ a1) (h1 : a1 < 18446744073709551616) (hl : l0.length + 9 < 140737488355328) :
    Calls Try.prog 52 #[.slice A0 l0.length c0, .int .u64 a1] w fun e w' => OwnBytes w.heap.size (l0 ++ put a1.toNat) e w' ∧ Below w.heap.size w w' := by
  by_cases hs : a1 < 240
  · refine (put_short A0 c0 l0 a1 w hr0 hc0 h0 hs hl).mono ?_
    rintro e w' ⟨v, rfl, ho, hb⟩
    have e1 : put a1.toNat = [a1] := by
      unfold put
      rw [if_pos (by omega)]
      simp
      omega
    refine ⟨OwnBytes.mk ?_, hb⟩
    rw [e1, nums_append, show (l0 ++ [a1]).length = l0.length + 1 by simp]
    exact ho
  · refine (put_long A0 c0 l0 a1 w hr0 hc0 (by omega) h1 hl).mono ?_
    rintro e w' ⟨v, rfl, ho, hb⟩
    exact ⟨OwnBytes.mk ho, hb⟩
theorem put_length (n : Nat) (h : n < 18446744073709551616) : (put n).length ≤ 9 := by
  unfold put
  split
  · simp
  · have := (bl_lt n 64).2 h
    simp
    omega
theorem text_put (A0 : Option Addr) (c0 : Nat) (l0 : List Int) (s : ByteArray) (w : World) (hr0 : Kd.C (Kd.int .u8) w A0 l0.length l0) (hc0 : l0.length ≤ c0) (hl : l0.length + 9 + s.size < 140737488355328) :
    Calls Try.prog 24 #[.slice A0 l0.length c0, .string s] w fun e w' => OwnBytes w.heap.size (l0 ++ put s.size ++ bytesOf s) e w' ∧ Below w.heap.size w w' := by
  have hP := put_any A0 c0 l0 (s.size : Int) w hr0 hc0 (by omega) (by omega) (by omega)
  rw [Int.toNat_natCast] at hP
  have hpl : (l0 ++ put s.size).length ≤ l0.length + 9 := by have := put_length s.size (by omega); simp; omega
  generalize l0 ++ put s.size = L at *
  have HP := Aside0.mk hP
  have HI := Aside0.mk info5
  have hs : (s.size : Int) ≤ 9223372036854775807 := by omega
  clear hP hr0
  go_enter Try.func24, Try.ntmps24
  go_wp2_with (first | (go_at_call 52; refine HP.out.mono ?_; rintro e w1 ⟨⟨A, c, rfl, hc, ho⟩, hb⟩; have HO := Aside0.mk ho; have HB := Aside0.mk hb; clear ho hb) | (at_builtin; refine print_append_str (w0 := w) w.heap.size rfl (.tmp 9) (.tmp 10) 37 9 5 rfl Try.underlying37 Try.underlying9 HI.out (.slice A L.length c) L s rfl rfl HO.out HB.out HB.out.size (by omega) ?_; intro v1 w2 ho2 hb2 _; have HO2 := Aside0.mk ho2; have HB2 := Aside0.mk hb2; clear ho2 hb2))
  go_ret
  exact ⟨OwnBytes.mk HO2.out, HB2.out⟩
end Go.Proofs.Ytpaknjmcjblahaa.H
