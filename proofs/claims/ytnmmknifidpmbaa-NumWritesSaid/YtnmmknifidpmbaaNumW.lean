import Derived.Test.YtnmmknifidpmbaaNumW1
import Derived.Test.YtnmmknifidpmbaaNumB
namespace Go.Proofs.Ytnmmknifidpmbaa.H
open Go.RowKit Go.Proofs.Ytnmmknifidpmbaa.P Go.Proofs.YtnmmknifidpmbaaW.PrintWords Go.Proofs.YtnmmknifidpmbaaW.PrintLast Go.Proofs.YtnmmknifidpmbaaW.PrintMore
set_option linter.unusedVariables false
set_option linter.unusedSimpArgs false

/-- The bytes of one act, as they are put. -/
def enc2 (x : S26) : List Int := if x.f4.size ≤ 400 then (if x.f0 = 1 then put x.f2.toNat else put x.f2.toNat ++ put x.f4.size ++ bytesOf x.f4) else []
def ser2 (l : List S26) : List Int := (l.map enc2).flatten
theorem ser2_snoc (x : S26) (l : List S26) : ser2 (l ++ [x]) = ser2 l ++ enc2 x := by simp [ser2]
theorem enc2_len (x : S26) (h1 : x.f2 < 18446744073709551616) : (enc2 x).length ≤ 418 := by
  unfold enc2
  have := put_length x.f2.toNat (by omega)
  split
  · have := put_length x.f4.size (by omega)
    split
    · omega
    · rw [List.length_append, List.length_append, bytesOf_len]
      omega
  · simp
theorem ser2_len (l : List S26) (h : ∀ x ∈ l, x.f2 < 18446744073709551616) : (ser2 l).length ≤ 418 * l.length := by
  induction l with
  | nil => simp [ser2]
  | cons x l ih =>
    have h1 := ih fun y hy => h y (List.mem_cons_of_mem _ hy)
    have h2 := enc2_len x (h x (List.mem_cons_self ..))
    have e : ser2 (x :: l) = enc2 x ++ ser2 l := by simp [ser2]
    rw [e, List.length_append, List.length_cons]
    omega
theorem str_append (l m : List Int) : strOfNums (l ++ m) = strOfNums l ++ strOfNums m := by
  apply WideShapes.bytes_inj
  simp [strOfNums, ByteArray.data_append]
/-- Two rows of bytes, alike, one's own, apart. -/
def Twice (base : Nat) (L : List Int) (v u : Value) (w' : World) : Prop :=
  (∃ A c, v = .slice A L.length c ∧ L.length ≤ c) ∧ w'.ownsRow base 5 1 v L.length (nums .u8 L) ∧ w'.ownsRow base 5 1 u L.length (nums .u8 L) ∧ (∀ k, v.ownBlock = some k → u.ownBlock ≠ some k)

theorem str_sz (l : List Int) : (strOfNums l).size = l.length := by simp [strOfNums, ByteArray.size]
theorem own_below {w w' : World} {base n : Nat} {v : Value} {xs : List Value} (h : w.ownsRow base 5 1 v n xs) (hb : Below w.heap.size w w') : w'.ownsRow base 5 1 v n xs := own_move h fun k hk => hb.block k (own_lt h k hk)
theorem own_base' {w : World} {b b' n : Nat} {v : Value} {xs : List Value} (h : w.ownsRow b' 5 1 v n xs) (hb : b ≤ b') : w.ownsRow b 5 1 v n xs := by
  refine ⟨h.1, ?_⟩
  rcases h.2 with h2 | ⟨g, cap, cur, h2, h3, h4⟩
  · exact .inl h2
  · exact .inr ⟨g, cap, cur, h2, Nat.le_trans hb h3, h4⟩
theorem apart_of {v u : Value} (h : ∀ k, v.ownBlock = some k → u.ownBlock ≠ some k) : v.ownBlock = none ∨ v.ownBlock ≠ u.ownBlock := by
  cases e : v.ownBlock with
  | none => exact .inl rfl
  | some k => exact .inr fun e' => h k e e'.symm
theorem Twice.below {base : Nat} {L : List Int} {v u : Value} {w w' : World} (h : Twice base L v u w) (hb : Below w.heap.size w w') : Twice base L v u w' := ⟨h.1, own_below h.2.1 hb, own_below h.2.2.1 hb, h.2.2.2⟩

theorem conv_any (L : List Int) (w : World) (A : Option Addr) (c : Nat) (h : Kd.C (Kd.int .u8) w A L.length L) : (convert 23 9 (.slice A L.length c)).run Try.prog w = .ok (.string (strOfNums L)) w :=
  Kd.C_string (P := Try.prog) (w := w) (A := A) (n := L.length) (xs := L) (src := 23) (dst := 9) (c := c) Try.underlying23 Try.underlying5 Try.underlying9 h

set_option maxHeartbeats 4000000 in
set_option maxRecDepth 20000 in
theorem numWrites_walk (A c : _) (l : List S26) (w : World) (hr : Kd.C k26 w A l.length l) (hc : l.length ≤ c) (hI : ∀ x ∈ l, ActOk x) :
    Calls Try.prog 3 #[.slice A l.length c] w fun e w' => e = .returned (.bool true) ∧ Below w.heap.size w w' := by
  have HI := Aside0.mk hI
  have HR := Aside0.mk hr
  have hm : ∃ m : Nat, m ≤ 60 ∧ m ≤ l.length ∧ (m < l.length → m = 60) := ⟨min l.length 60, by omega, by omega, by omega⟩
  obtain ⟨m, hm1, hm2, hm3⟩ := hm
  clear hI hr
  go_enter Try.func3, Try.ntmps3
  go_upto_region 1 with fail
  repeat ((fail_if_success (show Code.wp _ (Code.seq (Code.region 2 _ _) _) _ _ _)); (first | go_values | go_skip | go_guarded | go_step | go_upon | go_back))
  go_cut [3, 4, 5] from 6 (fun v u _ w' => ∃ L : List Int, Aside0 (Twice w.heap.size L v u w') ∧ Aside0 (Below w.heap.size w w'))
  case first =>
    go_wp2
    go_loopw [3, 4, 5] (fun v u t wr => ∃ (i : Nat) (L : List Int), t = .int .i64 i ∧ i ≤ m ∧ Aside0 (Twice w.heap.size L v u wr) ∧ Aside0 (Below w.heap.size w wr) ∧ Aside0 (L = ser2 (l.take i))) (fun _ _ t _ => 100 - (intOf t).toNat)
    case atStart => exact ⟨0, [], rfl, by omega, ⟨⟨none, 0, rfl, Nat.le_refl _⟩, ⟨rfl, .inl ⟨rfl, rfl⟩⟩, ⟨rfl, .inl ⟨rfl, rfl⟩⟩, fun k hk => by cases hk⟩, ⟨Below.refl _ _⟩, ⟨rfl⟩⟩
    case round =>
      obtain ⟨i, L, rfl, hi, HT, HB, HL⟩ := hrel
      by_cases him : i < m
      · have h60 : decide ((i : Int) < 60) = true := by simp; omega
        have hil : decide ((i : Int) < l.length) = true := by simp; omega
        obtain ⟨ad, rfl, a0, a1, a2, a3, a4⟩ := at_T26 (Kd.C_below HR.out HB.out) i (by omega) (by omega)
        simp only [Int.toNat_natCast] at a0 a1 a2 a3 a4
        have hok : ActOk (rd_T26 l i) := HI.out _ (by
          unfold rd_T26
          rw [Int.toNat_natCast, List.getD_eq_getElem?_getD, List.getElem?_eq_getElem (by omega)]
          exact List.getElem_mem _)
        have HS := Aside0.mk (take_snoc l i (by omega))
        have hll : L.length ≤ 418 * 60 := by
          have := ser2_len (l.take i) fun y hy => (HI.out y (List.mem_of_mem_take hy)).2
          rw [← HL.out, List.length_take] at this
          omega
        generalize hx : rd_T26 l i = x at *
        by_cases h4 : x.f4.size ≤ 400
        · have hd4 : decide ((400 : Int) < x.f4.size) = false := by simp; omega
          have h5 := HT.out
          obtain ⟨⟨A3, c3, rfl, hc3⟩, o3, o4, hap⟩ := h5
          have hpl := put_length x.f2.toNat (by have := hok.1; have := hok.2; omega)
          have hpl' := put_length x.f4.size (by omega)
          have HP := Aside0.mk (fun w A c h h' => put_any A c L x.f2 w h h' hok.1 hok.2 (by omega))
          have HX := Aside0.mk (fun w A c h h' => text_put A c L x.f4 w h h' (by omega))
          have HRP := Aside0.mk (fun w => refput_any x.f2 w hok.1 hok.2)
          have HRT := Aside0.mk (fun w => reftext_any x.f4 w h4)
          have O3 := Aside0.mk o3
          have O4 := Aside0.mk o4
          have HAP := Aside0.mk hap
          have hl8 : ∃ M, L ++ put x.f2.toNat = M := ⟨_, rfl⟩
          obtain ⟨M, hM⟩ := hl8
          have hl9 : ∃ N, L ++ put x.f4.size ++ bytesOf x.f4 = N := ⟨_, rfl⟩
          obtain ⟨N, hN⟩ := hl9
          have hl5 : ∃ Z, put x.f2.toNat = Z := ⟨_, rfl⟩
          obtain ⟨Z, hZ⟩ := hl5
          have hl6 : ∃ Y, put x.f4.size ++ bytesOf x.f4 = Y := ⟨_, rfl⟩
          obtain ⟨Y, hY⟩ := hl6
          have hs1 : strOfNums M = strOfNums L ++ strOfNums Z := by rw [← hM, hZ, str_append]
          have hs2 : strOfNums N = strOfNums L ++ strOfNums Y := by rw [← hN, ← hY, List.append_assoc, str_append]
          have hzl : Z.length ≤ 9 := by rw [← hZ]; exact hpl
          have hyl : Y.length ≤ 409 := by rw [← hY, List.length_append, bytesOf_len]; omega
          have hml : M.length ≤ 418 * 60 + 9 := by rw [← hM, List.length_append]; omega
          have HX2 := Aside0.mk (fun w A c h h' => text_put A c M x.f4 w h h' (by omega))
          have HM := Aside0.mk hM
          have HN := Aside0.mk hN
          have HZ := Aside0.mk hZ
          have HY := Aside0.mk hY
          rw [hM] at HP
          rw [hN] at HX
          rw [hZ] at HRP
          rw [hY] at HRT
          have hz1 := str_sz L
          have hz2 := str_sz Z
          have hz3 := str_sz Y
          have HS0 := Aside0.mk (conv_any L)
          have HS1 := Aside0.mk (conv_any M)
          have HS2 := Aside0.mk (conv_any N)
          have HS3 := Aside0.mk (conv_any Z)
          have HS4 := Aside0.mk (conv_any Y)
          generalize strOfNums L = s0 at *
          generalize strOfNums M = s1 at *
          generalize strOfNums N = s2 at *
          generalize strOfNums Z = s3 at *
          generalize strOfNums Y = s4 at *
          have hg1 : (9223372036854775807 < L.length + Z.length) = False := eq_false (by omega)
          have hg2 : (9223372036854775807 < L.length + Y.length) = False := eq_false (by omega)
          have hq0 : (s0.toList == s0.toList) = true := by simp
          have hq1 : (s1.toList == (s0 ++ s3).toList) = true := by rw [hs1]; simp
          have hq2 : (s2.toList == (s0 ++ s4).toList) = true := by rw [hs2]; simp
          clear hM hN hZ hY hap o3 o4 hpl hpl' hok hs1 hs2
          have hc0 := HS0.out wr A3 c3 (OwnBytes.C O3.out)
          have hb0 := (Below.refl wr.heap.size wr).alloc (Nat.le_refl _) (.cells #[.int .i64 x.f0, .int .i64 x.f1, .int .u64 x.f2, .int .u64 x.f3, .string x.f4] 26)
          have hcc := HS0.out _ A3 c3 (OwnBytes.C (own_below O3.out hb0))
          have HK0 := Aside0.mk (blk_new wr (.cells #[.int .i64 x.f0, .int .i64 x.f1, .int .u64 x.f2, .int .u64 x.f3, .string x.f4] 26))
          have HB0 := Aside0.mk hb0
          clear hb0
          go_wp2_with fail
          refine (HP.out _ A3 c3 (OwnBytes.C (own_below O3.out HB0.out)) hc3).mono ?_
          rintro e w3 ⟨⟨A8, c8, rfl, hc8, o8⟩, hb3⟩
          have HW0 : Aside0 (wr.heap.size ≤ (wr.alloc (.cells #[.int .i64 x.f0, .int .i64 x.f1, .int .u64 x.f2, .int .u64 x.f3, .string x.f4] 26)).heap.size) := ⟨HB0.out.size⟩
          have hbr3 := HB0.out.trans (hb3.mono HB0.out.size)
          have hk3 := blk_below HK0.out hb3
          have HK3 := Aside0.mk hk3
          have O8 := Aside0.mk (own_base' o8 HW0.out)
          have HBR3 := Aside0.mk hbr3
          have c33 := blk_cell hk3 4
          clear hk3 hbr3 hb3 o8 hc0 hcc HK0 HB0 HW0 HP
          go_wp2_with fail
          refine (HX.out _ A3 c3 (OwnBytes.C (own_below O3.out HBR3.out)) hc3).mono ?_
          rintro e w4 ⟨⟨A9, c9, rfl, hc9, o9⟩, hb4⟩
          have hbr4 := HBR3.out.trans (hb4.mono HBR3.out.size)
          have hk4 := blk_below HK3.out hb4
          have HK4 := Aside0.mk hk4
          have HBR4 := Aside0.mk hbr4
          have HB4 := Aside0.mk (HB.out.trans (hbr4.mono HB.out.size))
          have O84 := Aside0.mk (own_below O8.out hb4)
          have O94 := Aside0.mk o9
          have KK : Aside0 (∀ w', Below w4.heap.size w4 w' → ((convert 23 9 (.slice A3 L.length c3)).run Try.prog w' = .ok (.string s0) w' ∧ (convert 23 9 (.slice A8 M.length c8)).run Try.prog w' = .ok (.string s1) w' ∧ (convert 23 9 (.slice A9 N.length c9)).run Try.prog w' = .ok (.string s2) w' ∧ w'.cell? ⟨wr.heap.size, 2, none⟩ = some (.int .u64 x.f2) ∧ w'.cell? ⟨wr.heap.size, 4, none⟩ = some (.string x.f4))) :=
            ⟨fun w' hb => ⟨HS0.out w' A3 c3 (OwnBytes.C (own_below (own_below O3.out HBR4.out) hb)), HS1.out w' A8 c8 (OwnBytes.C (own_below O84.out hb)), HS2.out w' A9 c9 (OwnBytes.C (own_below O94.out hb)), blk_cell (blk_below HK4.out hb) 2, blk_cell (blk_below HK4.out hb) 4⟩⟩
          have K0 := KK.out w4 (Below.refl _ _)
          have K1 := Aside0.mk K0
          have K2 := Aside0.mk K0
          obtain ⟨q1, q2, q3, q4, q5⟩ := K0
          clear hk4 hbr4 hb4 o9 HX HK3 HBR3 O8 c33
          go_wp2_with fail
          refine wp_region_held_drew (S := (fun w' => (convert 23 9 (.slice A3 L.length c3)).run Try.prog w' = .ok (.string s0) w' ∧ (convert 23 9 (.slice A8 M.length c8)).run Try.prog w' = .ok (.string s1) w' ∧ (convert 23 9 (.slice A9 N.length c9)).run Try.prog w' = .ok (.string s2) w' ∧ w'.cell? ⟨wr.heap.size, 2, none⟩ = some (.int .u64 x.f2) ∧ w'.cell? ⟨wr.heap.size, 4, none⟩ = some (.string x.f4))) (by kernel_rfl) ?hSa0 (fun hHeld => ?_)
          case hSa0 => first | exact K2.out | exact K1.out | exact KK.out _ (Below.refl _ _).drew | exact KK.out _ (Below.refl _ _)
          refine held_take 0 (some 38) (v := ?va0) rfl rfl (by kernel_rfl) (by kernel_rfl) (by kernel_rfl) (fun _ _ _ h => h) (by rfl) ?ya0 (by assumption) ?_
          case ya0 => ((intro w hSw); (try dsimp only at hSw); go_simp <;> (with_reducible rfl))
          try simp only [Act.put, List.setIfInBounds_toArray, List.set_cons_zero, List.set_cons_succ]
          refine held_take 1 (some 39) (v := ?va1) rfl rfl (by kernel_rfl) (by kernel_rfl) (by kernel_rfl) (fun _ _ _ h => h) (by rfl) ?ya1 (by assumption) ?_
          case ya1 => ((intro w hSw); (try dsimp only at hSw); go_simp <;> (with_reducible rfl))
          try simp only [Act.put, List.setIfInBounds_toArray, List.set_cons_zero, List.set_cons_succ]
          refine held_take 2 (some 40) (v := ?va2) rfl rfl (by kernel_rfl) (by kernel_rfl) (by kernel_rfl) (fun _ _ _ h => h) (by rfl) ?ya2 (by assumption) ?_
          case ya2 => ((intro w hSw); (try dsimp only at hSw); go_simp <;> (with_reducible rfl))
          try simp only [Act.put, List.setIfInBounds_toArray, List.set_cons_zero, List.set_cons_succ]
          refine held_take 3 (some 41) (v := ?va3) rfl rfl (by kernel_rfl) (by kernel_rfl) (by kernel_rfl) (fun _ _ _ h => h) (by rfl) ?ya3 (by assumption) ?_
          case ya3 => ((intro w hSw); (try dsimp only at hSw); go_simp <;> (with_reducible rfl))
          try simp only [Act.put, List.setIfInBounds_toArray, List.set_cons_zero, List.set_cons_succ]
          refine held_take 4 (some 42) (v := ?va4) rfl rfl (by kernel_rfl) (by kernel_rfl) (by kernel_rfl) (fun _ _ _ h => h) (by rfl) ?ya4 (by assumption) ?_
          case ya4 => ((intro w hSw); (try dsimp only at hSw); go_simp <;> (with_reducible rfl))
          try simp only [Act.put, List.setIfInBounds_toArray, List.set_cons_zero, List.set_cons_succ]
          refine held_take 5 (some 43) (v := ?va5) rfl rfl (by kernel_rfl) (by kernel_rfl) (by kernel_rfl) (fun _ _ _ h => h) (by rfl) ?ya5 (by assumption) ?_
          case ya5 => ((intro w hSw); (try dsimp only at hSw); go_simp <;> (with_reducible rfl))
          try simp only [Act.put, List.setIfInBounds_toArray, List.set_cons_zero, List.set_cons_succ]
          refine held_take 6 (some 44) (v := ?va6) rfl rfl (by kernel_rfl) (by kernel_rfl) (by kernel_rfl) (fun _ _ _ h => h) (by rfl) ?ya6 (by assumption) ?_
          case ya6 => ((intro w hSw); (try dsimp only at hSw); go_simp <;> (with_reducible rfl))
          try simp only [Act.put, List.setIfInBounds_toArray, List.set_cons_zero, List.set_cons_succ]
          refine held_take 7 (some 45) (v := ?va7) rfl rfl (by kernel_rfl) (by kernel_rfl) (by kernel_rfl) (fun _ _ _ h => h) (by rfl) ?ya7 (by assumption) ?_
          case ya7 => ((intro w hSw); (try dsimp only at hSw); go_simp <;> (with_reducible rfl))
          try simp only [Act.put, List.setIfInBounds_toArray, List.set_cons_zero, List.set_cons_succ]
          refine held_take 8 (some 46) (v := ?va8) rfl rfl (by kernel_rfl) (by kernel_rfl) (by kernel_rfl) (fun _ _ _ h => h) (by rfl) ?ya8 (by assumption) ?_
          case ya8 => ((intro w hSw); (try dsimp only at hSw); go_simp <;> (with_reducible rfl))
          try simp only [Act.put, List.setIfInBounds_toArray, List.set_cons_zero, List.set_cons_succ]
          refine held_take 9 (some 47) (v := ?va9) rfl rfl (by kernel_rfl) (by kernel_rfl) (by kernel_rfl) (fun _ _ _ h => h) (by rfl) ?ya9 (by assumption) ?_
          case ya9 => ((intro w hSw); (try dsimp only at hSw); go_simp <;> (with_reducible rfl))
          try simp only [Act.put, List.setIfInBounds_toArray, List.set_cons_zero, List.set_cons_succ]
          refine wpAnyH_ready (rs := [10]) (by kernel_rfl) (by simp) ?_
          refine AllReadyH.cons rfl (fun K hK => ?_) AllReadyH.nil
          go_simp
          refine (HRP.out _).mono ?_
          rintro e w5 ⟨⟨A5, c5, rfl, hc5, ho5⟩, hb5⟩
          have HB5 := Aside0.mk (HB4.out.drew.trans (hb5.mono HB4.out.size))
          replace hb5 : Below w4.heap.size w4 w5 := (Below.refl _ _).drew.trans hb5
          have K1 := Aside0.mk (KK.out w5 hb5)
          have hcv := HS3.out w5 A5 c5 (OwnBytes.C ho5)
          have HBb5 := Aside0.mk hb5
          clear ho5 hb5
          refine hK.out _ _ ?hSa11 (fun hHeld => ?_)
          case hSa11 => first | exact K2.out | exact K1.out | exact KK.out _ (Below.refl _ _).drew | exact KK.out _ (Below.refl _ _)
          clear hK K
          try simp only [Act.put, List.setIfInBounds_toArray, List.set_cons_zero, List.set_cons_succ]
          refine wpAnyH_ready (rs := [11]) (by kernel_rfl) (by simp) ?_
          refine AllReadyH.cons rfl (fun K hK => ?_) AllReadyH.nil
          go_simp
          refine hK.out _ _ ?hSa12 (fun hHeld => ?_)
          case hSa12 => first | exact K2.out | exact K1.out | exact KK.out _ (Below.refl _ _).drew | exact KK.out _ (Below.refl _ _)
          clear hK K
          try simp only [Act.put, List.setIfInBounds_toArray, List.set_cons_zero, List.set_cons_succ]
          refine held_take 12 (some 50) (v := ?va12) rfl rfl (by kernel_rfl) (by kernel_rfl) (by kernel_rfl) (fun _ _ _ h => h) (by rfl) ?ya12 (by assumption) ?_
          case ya12 => ((intro w hSw); (try dsimp only at hSw); go_simp <;> (with_reducible rfl))
          try simp only [Act.put, List.setIfInBounds_toArray, List.set_cons_zero, List.set_cons_succ]
          refine held_take 13 (some 51) (v := ?va13) rfl rfl (by kernel_rfl) (by kernel_rfl) (by kernel_rfl) (fun _ _ _ h => h) (by rfl) ?ya13 (by assumption) ?_
          case ya13 => ((intro w hSw); (try dsimp only at hSw); go_simp <;> (with_reducible rfl))
          try simp only [Act.put, List.setIfInBounds_toArray, List.set_cons_zero, List.set_cons_succ]
          refine held_take 14 (some 52) (v := ?va14) rfl rfl (by kernel_rfl) (by kernel_rfl) (by kernel_rfl) (fun _ _ _ h => h) (by rfl) ?ya14 (by assumption) ?_
          case ya14 => ((intro w hSw); (try dsimp only at hSw); go_simp <;> (with_reducible rfl))
          try simp only [Act.put, List.setIfInBounds_toArray, List.set_cons_zero, List.set_cons_succ]
          refine held_take 15 (some 53) (v := ?va15) rfl rfl (by kernel_rfl) (by kernel_rfl) (by kernel_rfl) (fun _ _ _ h => h) (by rfl) ?ya15 (by assumption) ?_
          case ya15 => ((intro w hSw); (try dsimp only at hSw); go_simp <;> (with_reducible rfl))
          try simp only [Act.put, List.setIfInBounds_toArray, List.set_cons_zero, List.set_cons_succ]
          refine held_take 16 (some 54) (v := ?va16) rfl rfl (by kernel_rfl) (by kernel_rfl) (by kernel_rfl) (fun _ _ _ h => h) (by rfl) ?ya16 (by assumption) ?_
          case ya16 => ((intro w hSw); (try dsimp only at hSw); go_simp <;> (with_reducible rfl))
          try simp only [Act.put, List.setIfInBounds_toArray, List.set_cons_zero, List.set_cons_succ]
          refine held_take 17 (some 55) (v := ?va17) rfl rfl (by kernel_rfl) (by kernel_rfl) (by kernel_rfl) (fun _ _ _ h => h) (by rfl) ?ya17 (by assumption) ?_
          case ya17 => ((intro w hSw); (try dsimp only at hSw); go_simp <;> (with_reducible rfl))
          try simp only [Act.put, List.setIfInBounds_toArray, List.set_cons_zero, List.set_cons_succ]
          refine held_take 18 (some 56) (v := ?va18) rfl rfl (by kernel_rfl) (by kernel_rfl) (by kernel_rfl) (fun _ _ _ h => h) (by rfl) ?ya18 (by assumption) ?_
          case ya18 => ((intro w hSw); (try dsimp only at hSw); go_simp <;> (with_reducible rfl))
          try simp only [Act.put, List.setIfInBounds_toArray, List.set_cons_zero, List.set_cons_succ]
          refine held_take 19 (some 57) (v := ?va19) rfl rfl (by kernel_rfl) (by kernel_rfl) (by kernel_rfl) (fun _ _ _ h => h) (by rfl) ?ya19 (by assumption) ?_
          case ya19 => ((intro w hSw); (try dsimp only at hSw); go_simp <;> (with_reducible rfl))
          try simp only [Act.put, List.setIfInBounds_toArray, List.set_cons_zero, List.set_cons_succ]
          refine held_take 20 (some 58) (v := ?va20) rfl rfl (by kernel_rfl) (by kernel_rfl) (by kernel_rfl) (fun _ _ _ h => h) (by rfl) ?ya20 (by assumption) ?_
          case ya20 => ((intro w hSw); (try dsimp only at hSw); go_simp <;> (with_reducible rfl))
          try simp only [Act.put, List.setIfInBounds_toArray, List.set_cons_zero, List.set_cons_succ]
          refine wpAnyH_ready (rs := [21]) (by kernel_rfl) (by simp) ?_
          refine AllReadyH.cons rfl (fun K hK => ?_) AllReadyH.nil
          go_simp
          refine (HRT.out _).mono ?_
          rintro e w6 ⟨⟨A6, c6, rfl, hc6, ho6⟩, hb6⟩
          have HB6 := Aside0.mk (HB5.out.trans (hb6.mono HB5.out.size))
          have HBb6 := Aside0.mk (HBb5.out.trans (hb6.mono HBb5.out.size))
          have K2 := Aside0.mk (KK.out w6 HBb6.out)
          have hcv2 := HS4.out w6 A6 c6 (OwnBytes.C ho6)
          clear ho6 hb6 hcv
          refine hK.out _ _ ?hSa22 (fun hHeld => ?_)
          case hSa22 => first | exact K2.out | exact K1.out | exact KK.out _ (Below.refl _ _).drew | exact KK.out _ (Below.refl _ _)
          clear hK K
          try simp only [Act.put, List.setIfInBounds_toArray, List.set_cons_zero, List.set_cons_succ]
          refine wpAnyH_ready (rs := [22]) (by kernel_rfl) (by simp) ?_
          refine AllReadyH.cons rfl (fun K hK => ?_) AllReadyH.nil
          go_simp
          refine hK.out _ _ ?hSa23 (fun hHeld => ?_)
          case hSa23 => first | exact K2.out | exact K1.out | exact KK.out _ (Below.refl _ _).drew | exact KK.out _ (Below.refl _ _)
          clear hK K
          try simp only [Act.put, List.setIfInBounds_toArray, List.set_cons_zero, List.set_cons_succ]
          refine held_take 23 (some 61) (v := ?va23) rfl rfl (by kernel_rfl) (by kernel_rfl) (by kernel_rfl) (fun _ _ _ h => h) (by rfl) ?ya23 (by assumption) ?_
          case ya23 => ((intro w hSw); (try dsimp only at hSw); go_simp <;> (with_reducible rfl))
          try simp only [Act.put, List.setIfInBounds_toArray, List.set_cons_zero, List.set_cons_succ]
          refine held_take 24 (some 62) (v := ?va24) rfl rfl (by kernel_rfl) (by kernel_rfl) (by kernel_rfl) (fun _ _ _ h => h) (by rfl) ?ya24 (by assumption) ?_
          case ya24 => ((intro w hSw); (try dsimp only at hSw); go_simp <;> (with_reducible rfl))
          try simp only [Act.put, List.setIfInBounds_toArray, List.set_cons_zero, List.set_cons_succ]
          refine held_take 25 (some 63) (v := ?va25) rfl rfl (by kernel_rfl) (by kernel_rfl) (by kernel_rfl) (fun _ _ _ h => h) (by rfl) ?ya25 (by assumption) ?_
          case ya25 => ((intro w hSw); (try dsimp only at hSw); go_simp <;> (with_reducible rfl))
          try simp only [Act.put, List.setIfInBounds_toArray, List.set_cons_zero, List.set_cons_succ]
          refine wpAnyH_done (by kernel_rfl) ?_ _
          have hbr6 := HBR4.out.trans (HBb6.out.mono HBR4.out.size)
          have hk6 := blk_below HK4.out HBb6.out
          have HK6 := Aside0.mk hk6
          have O86 := Aside0.mk (own_below O84.out HBb6.out)
          have O46 := Aside0.mk (own_below O4.out hbr6)
          have HL4 := Aside0.mk (fun k (hk : Value.ownBlock u4 = some k) => own_lt O4.out k hk)
          have HL8 := Aside0.mk (fun k (hk : Value.ownBlock (.slice A8 M.length c8) = some k) => And.intro (own_base O86.out k hk) (own_lt O86.out k hk))
          have c60 := blk_cell hk6 0
          have c62 := blk_cell hk6 2
          have c64 := blk_cell hk6 4
          clear hk6 hbr6 K1 K2 KK HBb5 HBb6 HB5 hcv2 q1 q2 q3 q4 q5 HK4 O84 O94 HBR4 HB4 hq0 hq1 hq2 hg1 hg2 hz1 hz2 hz3 HS0 HS1 HS2 HS3 HS4
          go_wp2_with fail
          refine (HRP.out _).mono ?_
          rintro e w7 ⟨⟨A7, c7, rfl, hc7, o7⟩, hb7⟩
          have HK7 := Aside0.mk (blk_below HK6.out hb7)
          have O87 := Aside0.mk (own_below O86.out hb7)
          have O47 := Aside0.mk (own_below O46.out hb7)
          have O77 := Aside0.mk o7
          have HB7 := Aside0.mk (HB6.out.trans (hb7.mono HB6.out.size))
          have HSZ7 := Aside0.mk hb7.size
          have HSZ6 := Aside0.mk (blk_lt HK6.out)
          clear hb7 o7 c60 c62 c64 HK6 O86 O46 HB6
          by_cases hkk : x.f0 = 1
          · have hf : (x.f0 == 1) = true := by simp [hkk]
            go_wp2_with (first | (at_builtin; refine print_append_row (w0 := w) w.heap.size rfl (.tmp 65) (.tmp 68) 23 5 .u8 1 rfl Try.underlying23 info5 (by decide) _ L Z A7 Z.length c7 rfl rfl O47.out (own_reads' O77.out) HB7.out HB7.out.size (by omega) ?_; intro v8 w8 ho8 hb8 hg8 hat8; have hk8 := blk_grown HK7.out hg8 (fun e => by have := HL4.out _ e.symm; omega); have c80 := blk_cell hk8 0; have c82 := blk_cell hk8 2; have c84 := blk_cell hk8 4))
            have hap8 : ∀ k, Value.ownBlock (.slice A8 M.length c8) = some k → Value.ownBlock v8 ≠ some k := fun k hk e => by
              have h1 := HL8.out k hk
              have h2 := HSZ7.out
              rcases hat8 with h | ⟨b, h, h3⟩
              · rw [h] at e
                have := HL4.out k e
                omega
              · rw [h] at e
                cases e
                omega
            have O88 := Aside0.mk (own_other O87.out hg8 (apart_of fun k hk e => by
              have h1 := HL8.out k hk
              have := HL4.out k e
              omega))
            have hMe : L ++ Z = M := by rw [← HZ.out]; exact HM.out
            rw [hMe] at ho8
            have HE : Aside0 (M = ser2 (l.take (i + 1))) := ⟨by
              rw [HS.out, ser2_snoc, ← HL.out, ← HM.out]
              unfold enc2
              rw [if_pos h4, if_pos hkk]⟩
            go_roundw
            case rel => exact ⟨i + 1, M, by go_num, by omega, ⟨⟨A8, c8, rfl, hc8⟩, own_base' O88.out HB.out.size, ho8, hap8⟩, ⟨hb8⟩, HE⟩
            case measure => simp [intOf]; omega
          · have hf : (x.f0 == 1) = false := by simp [hkk]
            have hl7 : ∃ P, M ++ put x.f4.size ++ bytesOf x.f4 = P := ⟨_, rfl⟩
            obtain ⟨P, hP⟩ := hl7
            rw [hP] at HX2
            have HPe := Aside0.mk hP
            have hMY : M ++ Y = P := by rw [← hP, ← HY.out, List.append_assoc]
            have HMY := Aside0.mk hMY
            clear hP hMY
            go_wp2_with (first | (at_builtin; refine print_append_row (w0 := w) w.heap.size rfl (.tmp 65) (.tmp 68) 23 5 .u8 1 rfl Try.underlying23 info5 (by decide) _ L Z A7 Z.length c7 rfl rfl O47.out (own_reads' O77.out) HB7.out HB7.out.size (by omega) ?_; intro v8 w8 ho8 hb8 hg8 hat8; have hk8 := blk_grown HK7.out hg8 (fun e => by have := HL4.out _ e.symm; omega); have c80 := blk_cell hk8 0; have c82 := blk_cell hk8 2; have c84 := blk_cell hk8 4))
            have hap8 : ∀ k, Value.ownBlock (.slice A8 M.length c8) = some k → Value.ownBlock v8 ≠ some k := fun k hk e => by
              have h1 := HL8.out k hk
              have h2 := HSZ7.out
              rcases hat8 with h | ⟨b, h, h3⟩
              · rw [h] at e
                have := HL4.out k e
                omega
              · rw [h] at e
                cases e
                omega
            have O88 := Aside0.mk (own_other O87.out hg8 (apart_of fun k hk e => by
              have h1 := HL8.out k hk
              have := HL4.out k e
              omega))
            have hMe : L ++ Z = M := by rw [← HZ.out]; exact HM.out
            rw [hMe] at ho8
            have hk8' := hk8
            have HK8 := Aside0.mk hk8'
            have HO8 := Aside0.mk ho8
            have HB8 := Aside0.mk hb8
            clear hk8' hk8 ho8 hb8 hg8 hat8 hMe hap8
            refine (HX2.out _ A8 c8 (OwnBytes.C O88.out) hc8).mono ?_
            rintro e w9 ⟨⟨A9', c9', rfl, hc9', o9⟩, hb9⟩
            have hk9 := blk_below HK8.out hb9
            have c94 := blk_cell hk9 4
            have HO9 := Aside0.mk (own_below HO8.out hb9)
            have HP9 := Aside0.mk o9
            have HB9 := Aside0.mk (HB8.out.trans (hb9.mono HB8.out.size))
            clear hk9 hb9 o9 c80 c82 c84
            go_wp2_with fail
            refine (HRT.out _).mono ?_
            rintro e w10 ⟨⟨A10, c10, rfl, hc10, o10⟩, hb10⟩
            have HO10 := Aside0.mk (own_below HO9.out hb10)
            have HP10 := Aside0.mk (own_below HP9.out hb10)
            have HY10 := Aside0.mk o10
            have HB10 := Aside0.mk (HB9.out.trans (hb10.mono HB9.out.size))
            have HSZ10 := Aside0.mk hb10.size
            clear hb10 o10 c94
            go_wp2_with (first | (at_builtin; refine print_append_row (w0 := w) w.heap.size rfl (.tmp 77) (.tmp 80) 23 5 .u8 1 rfl Try.underlying23 info5 (by decide) _ M Y A10 Y.length c10 rfl rfl HO10.out (own_reads' HY10.out) HB10.out HB10.out.size (by omega) ?_; intro v11 w11 ho11 hb11 hg11 hat11))
            have hs8 : ∀ k, v8.ownBlock = some k → k < w8.heap.size := fun k hk => own_lt HO8.out k hk
            have hs9 : ∀ k, Value.ownBlock (.slice A9' P.length c9') = some k → w8.heap.size ≤ k ∧ k < w9.heap.size := fun k hk => ⟨own_base HP9.out k hk, own_lt HP9.out k hk⟩
            have O911 := own_other HP10.out hg11 (apart_of fun k hk e => by
              have h1 := hs9 k hk
              have := hs8 k e
              omega)
            have hap11 : ∀ k, Value.ownBlock (.slice A9' P.length c9') = some k → Value.ownBlock v11 ≠ some k := fun k hk e => by
              have h1 := hs9 k hk
              have h2 := HSZ10.out
              rcases hat11 with h | ⟨b, h, h3⟩
              · rw [h] at e
                have := hs8 k e
                omega
              · rw [h] at e
                cases e
                omega
            rw [HMY.out] at ho11
            have HE : Aside0 (P = ser2 (l.take (i + 1))) := ⟨by
              rw [HS.out, ser2_snoc, ← HL.out, ← HPe.out, ← HM.out]
              unfold enc2
              rw [if_pos h4, if_neg hkk]
              simp only [List.append_assoc]⟩
            go_roundw
            case rel => exact ⟨i + 1, P, by go_num, by omega, ⟨⟨A9', c9', rfl, hc9'⟩, own_base' O911 HB8.out.size, ho11, hap11⟩, ⟨hb11⟩, HE⟩
            case measure => simp [intOf]; omega
        · have hd4 : decide ((400 : Int) < x.f4.size) = true := by simp; omega
          have HE : Aside0 (L = ser2 (l.take (i + 1))) := ⟨by
            rw [HS.out, ser2_snoc, ← HL.out]
            unfold enc2
            rw [if_neg h4, List.append_nil]⟩
          have h5 := HT.out
          obtain ⟨⟨A3, c3, rfl, hc3⟩, o3, o4, hap⟩ := h5
          clear o3 o4 hap
          go_wp2
          have hb0 := (Below.refl wr.heap.size wr).alloc (Nat.le_refl _) (.cells #[.int .i64 x.f0, .int .i64 x.f1, .int .u64 x.f2, .int .u64 x.f3, .string x.f4] 26)
          go_roundw
          case rel => exact ⟨i + 1, L, by go_num, by omega, ⟨HT.out.below hb0⟩, ⟨HB.out.trans (hb0.mono HB.out.size)⟩, HE⟩
          case measure => simp [intOf]; omega
      · obtain rfl : i = m := by omega
        by_cases hil : i < l.length
        · have h1 : decide ((i : Int) < l.length) = true := by simp; omega
          have h2 : decide ((i : Int) < 60) = false := by simp; omega
          go_wp2
          go_meet
          case rel => exact ⟨L, HT, HB⟩
        · have h1 : decide ((i : Int) < l.length) = false := by simp; omega
          go_wp2
          go_meet
          case rel => exact ⟨L, HT, HB⟩
  case rest =>
    obtain ⟨L, HT, HB⟩ := hcut
    have h5 := HT.out
    obtain ⟨⟨A3, c3, rfl, hc3⟩, o3, o4, hap⟩ := h5
    obtain ⟨A4, c4, rfl, r4⟩ := own_reads o4
    have O3 := Aside0.mk o3
    have O4 := Aside0.mk o4
    clear o3 o4 hap r4
    have HS := Aside0.mk (conv_any L)
    generalize strOfNums L = s0 at *
    go_wp2_with fail
    refine (alive_any _).mono ?_
    rintro e w7 ⟨rfl, hb7⟩
    have hc3 := HS.out w7 A3 c3 (OwnBytes.C (own_below O3.out hb7))
    have hc4 := HS.out w7 A4 c4 (OwnBytes.C (own_below O4.out hb7))
    have HB7 := Aside0.mk (HB.out.trans (hb7.mono HB.out.size))
    clear hb7
    go_wp2
    go_ret
    exact ⟨rfl, HB7.out⟩
end Go.Proofs.Ytnmmknifidpmbaa.H
