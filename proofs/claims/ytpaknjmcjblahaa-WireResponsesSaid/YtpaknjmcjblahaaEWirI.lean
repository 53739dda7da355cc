/- WirI. -/
import Derived.Test.YtpaknjmcjblahaaEWirP
import Derived.Test.YtpaknjmcjblahaaEPx3
import Derived.Test.YtpaknjmcjblahaaEPx4
import Derived.Test.YtpaknjmcjblahaaENumW1
import Derived.Deep.LoopGhost
namespace Go.Proofs.Ytpaknjmcjblahaa.H
open Go.RowKit Go.Proofs.Ytpaknjmcjblahaa.P Go.Proofs.YtpaknjmcjblahaaW.PrintWords Go.Proofs.YtpaknjmcjblahaaW.PrintLast Go.Proofs.YtpaknjmcjblahaaW.PrintMore
set_option linter.unusedVariables false
set_option linter.unusedSimpArgs false
set_option maxRecDepth 20000
theorem putL_append (l m : List Int) : putL (l ++ m) = putL l ++ putL m := by simp [putL]
theorem putN_len (n : Int) (h : n < 18446744073709551616) : (putN n).length ≤ 9 := by
  unfold putN
  rw [put_len]
  split
  · omega
  · have := nb_le n.toNat (by omega); omega
theorem putL_len : ∀ (l : List Int), (∀ x ∈ l, x < 18446744073709551616) → (putL l).length ≤ 9 * l.length
  | [], _ => by simp [putL]
  | x :: l, h => by
    have h1 := putN_len x (h x (by simp))
    have h2 := putL_len l (fun y hy => h y (List.mem_cons_of_mem _ hy))
    rw [show putL (x :: l) = putN x ++ putL l from by simp [putL], List.length_append, List.length_cons]
    omega
theorem u64_id (x : Int) (h0 : 0 ≤ x) (h1 : x < 9223372036854775808) : IntKind.u64.wrap x = x := IntWalk.u64_in x (by omega)
set_option maxHeartbeats 4000000 in
theorem wput_any (A : Option Addr) (c : Nat) (l : List Int) (B : Option Addr) (d : Nat) (m : List Int) (w : World) (hA : Kd.C (Kd.int .u8) w A l.length l) (hc : l.length ≤ c) (hB : Kd.C (Kd.int .i64) w B m.length m) (hm : ∀ x ∈ m, 0 ≤ x ∧ x < 9223372036854775808) (hl : l.length + 9 * m.length ≤ 100000) :
    Calls Try.prog 22 #[.slice A l.length c, .slice B m.length d] w fun e w' => (∃ A' c', e = .returned (.slice A' (l ++ putL m).length c') ∧ (l ++ putL m).length ≤ c' ∧ Kd.C (Kd.int .u8) w' A' (l ++ putL m).length (l ++ putL m) ∧ (m ≠ [] → Kd.R (Kd.int .u8) 5 w' w.heap.size (fun _ => True) (.slice A' (l ++ putL m).length c') (l ++ putL m))) ∧ Below w.heap.size w w' := by
  have HB := Aside0.mk hB
  have HM := Aside0.mk hm
  have HL := Aside0.mk hl
  have HA := Aside0.mk hA
  have HC := Aside0.mk hc
  have hm5 : m.length ≤ 100000 := by omega
  clear hA hB hm hl hc
  obtain ⟨RES, hRES⟩ : ∃ R, l ++ putL m = R := ⟨_, rfl⟩
  rw [hRES]
  have HRES := Aside0.mk hRES
  clear hRES
  go_enter Try.func22, Try.ntmps22
  go_wp2_with fail
  go_loopw [0, 6, 9] (fun b _ i wr => ∃ (j : Nat) (A' : Option Addr) (c' : Nat) (bs : List Int), b = .slice A' bs.length c' ∧ i = .int .i64 j ∧ j ≤ m.length ∧ Aside0 (bs.length ≤ c') ∧ Aside0 (Kd.C (Kd.int .u8) wr A' bs.length bs) ∧ Aside0 (bs = l ++ putL (m.take j)) ∧ Aside0 (0 < j → Kd.R (Kd.int .u8) 5 wr w.heap.size (fun _ => True) (.slice A' bs.length c') bs) ∧ Aside0 (Below w.heap.size w wr)) (fun _ _ i _ => m.length - (intOf i).toNat)
  case atStart => exact ⟨0, A, c, l, rfl, rfl, Nat.zero_le _, HC, HA, ⟨by simp [putL]⟩, ⟨fun h => by omega⟩, ⟨Below.refl _ _⟩⟩
  case round =>
    obtain ⟨j, A', c', bs, rfl, rfl, hj, HC1, HA1, HE, HR, HW⟩ := hrel
    by_cases h1 : j < m.length
    · have h1z : (j : Int) < (m.length : Int) := by omega
      obtain ⟨ad, e, x0⟩ := (Kd.reads_of_C (d := (0 : Int)) (Kd.C_below HB.out HW.out)).at_ (j : Int) (by omega) (by omega)
      cases e
      rw [Int.toNat_natCast] at x0
      have hx : rdOf 0 m (j : Int) = m[j] := by
        unfold rdOf
        rw [Int.toNat_natCast, List.getD_eq_getElem?_getD, List.getElem?_eq_getElem h1]; rfl
      rw [hx] at x0
      have hxm := HM.out m[j] (List.getElem_mem h1)
      have HT := Aside0.mk (show m.take (j + 1) = m.take j ++ [m[j]] from by rw [List.take_succ_eq_append_getElem h1])
      have hbl : bs.length ≤ l.length + 9 * j := by
        rw [HE.out, List.length_append]
        have := putL_len (m.take j) (fun x hx => by have := HM.out x (List.mem_of_mem_take hx); omega)
        rw [List.length_take] at this
        omega
      generalize m[j] = x at *
      have hwx := u64_id x hxm.1 hxm.2
      have HP := Aside0.mk (num_Put.calls A' c' bs x (bs ++ putN x) wr HA1.out HC1.out (by unfold num_Put.f; rw [if_pos ⟨hxm.1, by omega, by have := HL.out; omega⟩]; rfl))
      have hw := wr1 j (by omega)
      have HJ := Aside0.mk h1
      clear hxm hbl hx hm5
      go_wp2_with fail
      refine HP.out.mono ?_
      rintro e w2 ⟨v, rfl, hR, hb⟩
      obtain ⟨A2, c2, rfl, h2, h3⟩ := Kd.R_reads hR
      have HR2 := Aside0.mk (Kd.R_lower hR HW.out.size)
      have HW2 := Aside0.mk (HW.out.trans (hb.mono HW.out.size))
      have HC2 := Aside0.mk h2
      have HA2 := Aside0.mk h3
      clear hR hb h2 h3 HP x0
      have HE2 := Aside0.mk (show bs ++ putN x = l ++ putL (m.take (j + 1)) from by rw [HT.out, putL_append, HE.out, List.append_assoc]; simp [putL])
      generalize bs ++ putN x = b2 at *
      clear HE HT HA1 HC1 HR HW
      go_wp2_with fail
      go_roundw
      case rel => exact ⟨j + 1, A2, c2, b2, rfl, by go_num, HJ.out, HC2, HA2, HE2, ⟨fun _ => HR2.out⟩, HW2⟩
      case measure => (try rw [hw]); simp only [intOf]; have := HJ.out; omega
    · have h1z : ¬ (j : Int) < (m.length : Int) := by omega
      have hjm : j = m.length := by omega
      have HE2 := Aside0.mk (show bs = RES from by rw [HE.out, hjm, List.take_length, HRES.out])
      have HR2 := Aside0.mk (show m ≠ [] → Kd.R (Kd.int .u8) 5 wr w.heap.size (fun _ => True) (.slice A' bs.length c') bs from fun h => HR.out (by have := List.length_pos_iff.2 h; omega))
      clear HE HR hjm
      go_wp2_with fail
      go_ret
      rw [← HE2.out]
      exact ⟨⟨A', c', rfl, HC1.out, HA1.out, HR2.out⟩, HW.out⟩
theorem refput_l0 : ∀ (B A acc : List Int), (A ++ B).length ≤ 10000 → (∀ x ∈ B, 0 ≤ x ∧ x < 9223372036854775808) → acc.length + 9 * B.length ≤ 100000 → Ev (fun k => waystoneref17_put.l0 k (A ++ B) acc (A.length : Int)) (acc ++ putL B)
  | [], A, acc, hl, hB, ha => by
    refine Ev.step (fun k => by rw [waystoneref17_put.l0]) ?_
    simp only [List.append_nil, Int.lt_irrefl, if_false]
    exact evCast (Ev.now _) (by simp [putL])
  | p :: B, A, acc, hl, hB, ha => by
    have hl2 : A.length + (B.length + 1) ≤ 10000 := by rw [List.length_append, List.length_cons] at hl; exact hl
    have ha2 : acc.length + 9 * (B.length + 1) ≤ 100000 := by rw [List.length_cons] at ha; exact ha
    have h1 : ((A.length : Nat) : Int) < ((A ++ p :: B).length : Int) := by rw [List.length_append, List.length_cons]; omega
    have h0 : (0 : Int) ≤ (A.length : Int) := by omega
    have hw := wr1 A.length (by omega)
    have hp := hB p (by simp)
    have hwx := u64_id p hp.1 hp.2
    have hpl := putN_len p (by omega)
    refine Ev.step (fun k => by rw [waystoneref17_put.l0]) ?_
    simp only [h1, h0, if_true, rdI_app, hw, hwx]
    refine Ev.bind (a := putN p) ?_ ?_
    · refine Ev.of (fun k => waystoneref01_Put.mono p k) (k := 10) ?_
      have := ref_put_f p.toNat (by omega)
      rw [Int.toNat_of_nonneg hp.1] at this
      exact this
    · simp only [if_pos (show acc.length + (putN p).length < 140737488355328 from by omega)]
      have ih := refput_l0 B (A ++ [p]) (acc ++ putN p) (by rw [List.append_assoc]; exact hl) (fun x hx => hB x (List.mem_cons_of_mem _ hx)) (by rw [List.length_append]; omega)
      rw [show (A ++ [p]) ++ B = A ++ p :: B from by simp, show (A ++ [p]).length = A.length + 1 from by simp] at ih
      exact evCast ih (by rw [List.append_assoc]; simp [putL])
theorem refput_ev (m : List Int) (h : m.length ≤ 10000) (hm : ∀ x ∈ m, 0 ≤ x ∧ x < 9223372036854775808) : Ev (fun k => waystoneref17_put.f k m) (putL m) := by
  unfold waystoneref17_put.f
  exact evCast (refput_l0 m [] [] (by simpa using h) hm (by simp; omega)) (by simp)
theorem wtext_any (A : Option Addr) (c : Nat) (l : List Int) (s : ByteArray) (w : World) (hA : Kd.C (Kd.int .u8) w A l.length l) (hc : l.length ≤ c) (hl : l.length + s.size ≤ 100000) :
    Calls Try.prog 24 #[.slice A l.length c, .string s] w fun e w' => ∃ v, e = .returned v ∧ Kd.R (Kd.int .u8) 5 w' w.heap.size (fun _ => True) v (l ++ putT s) ∧ Below w.heap.size w w' :=
  num_Text.calls A c l s _ w hA hc (by unfold num_Text.f; rw [if_pos (by omega)]; unfold putT; rw [List.append_assoc])
end Go.Proofs.Ytpaknjmcjblahaa.H
