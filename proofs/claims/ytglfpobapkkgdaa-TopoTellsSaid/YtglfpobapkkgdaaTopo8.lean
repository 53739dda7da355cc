import Derived.Test.YtglfpobapkkgdaaTopo7
namespace Go.Proofs.Ytglfpobapkkgdaa.H
open Go.RowKit Go.Proofs.Ytglfpobapkkgdaa.P Go.Proofs.YtglfpobapkkgdaaW.PrintWords Go.Proofs.YtglfpobapkkgdaaW.PrintLast Go.Proofs.YtglfpobapkkgdaaW.PrintMore
attribute [local go_sem] max2_int min2_int max_two min_two
set_option linter.unusedVariables false
set_option linter.unusedSimpArgs false
/-- A device's ports that are joined to none: the first ones. -/
def rowE (L : List (S27 × S27)) (i : Nat) : Nat → List S27
  | 0 => []
  | k + 1 => rowE L i k ++ (if (look L ⟨(i : Int), (k : Int)⟩).isSome then [] else [⟨(i : Int), (k : Int)⟩])
def edgesE (l0 : List Int) (L : List (S27 × S27)) : Nat → List S27
  | 0 => []
  | m + 1 => edgesE l0 L m ++ rowE L m (mn (rdOf 0 l0 (m : Int)) 4).toNat
theorem rowE_len (L : List (S27 × S27)) (i : Nat) : ∀ k, (rowE L i k).length ≤ k
  | 0 => Nat.le_refl _
  | k + 1 => by
    have := rowE_len L i k
    unfold rowE
    rw [List.length_append]
    split <;> simp <;> omega
theorem edgesE_len (l0 : List Int) (L : List (S27 × S27)) : ∀ m, (edgesE l0 L m).length ≤ 4 * m
  | 0 => Nat.le_refl _
  | m + 1 => by
    have h1 := edgesE_len l0 L m
    have h2 := rowE_len L m (mn (rdOf 0 l0 (m : Int)) 4).toNat
    have h3 : (mn (rdOf 0 l0 (m : Int)) 4).toNat ≤ 4 := by unfold mn; omega
    unfold edgesE
    rw [List.length_append]
    omega
theorem MapAt.ne_own {α β : Type} {w : World} {g : Nat} {encK : α → Value} {encV : β → Value} {L : List (α × β)} (h : MapAt w g encK encV L) {γ : Type} {d : Kd γ} {e base : Nat} {ok : Nat → Prop} {v : Value} {xs : List γ} (hr : d.R e w base ok v xs) (k : Nat) (hk : v.ownBlock = some k) : g ≠ k := by
  obtain ⟨inner, ho⟩ := Kd.R_own hr
  obtain ⟨cells, hc⟩ := own_typed ho k hk
  obtain ⟨es, c, hg, _⟩ := h
  rintro rfl
  rw [hc] at hg
  cases hg
theorem MapAt.grown {α β : Type} {w w1 : World} {g : Nat} {encK : α → Value} {encV : β → Value} {L : List (α × β)} (h : MapAt w g encK encV L) {row : Option Nat} (hg : w.grownBy w1 row) (hne : ∀ k, row = some k → g ≠ k) : MapAt w1 g encK encV L := by
  obtain ⟨es, c, hm, hl⟩ := h
  exact ⟨es, c, (hg.block g (Array.getElem?_eq_some_iff.1 hm).1 (fun e => hne g e.symm rfl)).trans hm, hl⟩
set_option maxHeartbeats 2000000 in
theorem edges_any (A0 : Option Addr) (c0 : Nat) (l0 : List Int) (A1 : Option Addr) (c1 : Nat) (l1 : List S38) (w : World) (hr0 : Kd.C (Kd.int .i64) w A0 l0.length l0) (hr1 : Kd.C k38 w A1 l1.length l1) (hc1 : l1.length ≤ c1) (hn : l0.length ≤ 1000) :
    Calls Try.prog 12 #[.agg #[.slice A0 l0.length c0, .slice A1 l1.length c1]] w fun e w' => (∃ v, e = .returned v ∧ Kd.R k27 27 w' w.heap.size (fun _ => True) v (edgesE l0 (joinL l1) l0.length)) ∧ Below w.heap.size w w' := by
  have hu25 := Try.underlying25
  have hu27 := Try.underlying27
  have HR0 := Aside0.mk hr0
  have hB1 : Below w.heap.size w (w.alloc (Obj.cells #[.slice A0 l0.length c0, .slice A1 l1.length c1] 25)) := (Below.refl _ _).alloc (Nat.le_refl _) _
  have hcall := joined_any A0 c0 l0 A1 c1 l1 (w.alloc (Obj.cells #[.slice A0 l0.length c0, .slice A1 l1.length c1] 25)) (Kd.C_below hr1 hB1) hc1
  have HB1 := Aside0.mk hB1
  have n1 := Aside0.mk (blk_new w (Obj.cells #[.slice A0 l0.length c0, .slice A1 l1.length c1] 25))
  have HM := Aside0.mk hn
  clear hr0 hr1 hB1
  generalize joinL l1 = L at *
  go_enter Try.func12, Try.ntmps12
  go_wp2_with fail
  refine hcall.mono ?_
  rintro e w2 ⟨g, rfl, hm2, hg2, hb2⟩
  have HB2 := Aside0.mk (HB1.out.trans (hb2.mono HB1.out.size))
  have hn2 := blk_below n1.out hb2
  have x0 := blk_cell hn2 0
  have HM2 := Aside0.mk hm2
  clear hcall hm2 hb2 hn2 n1
  go_wp2_with fail
  go_loopw [4, 16] (fun v c wr => ∃ (j : Nat), j ≤ l0.length ∧ c = .int .i64 j ∧ Aside0 (Kd.R k27 27 wr w.heap.size (fun _ => True) v (edgesE l0 L j)) ∧ Aside0 (MapAt wr g encP encP L) ∧ Aside0 (Below w.heap.size w wr)) (fun _ c _ => l0.length - (intOf c).toNat)
  case atStart => exact ⟨0, Nat.zero_le _, rfl, ⟨Kd.R_nil _ _ _ _ _⟩, HM2, HB2⟩
  case round =>
    obtain ⟨j, hj, rfl, HR, HMP, HB⟩ := hrel
    by_cases hlt : j < l0.length
    · obtain ⟨ad, e, a0⟩ := (Kd.reads_of_C (d := (0 : Int)) (Kd.C_below HR0.out HB.out)).at_ (j : Int) (by omega) (by omega)
      cases e
      rw [Int.toNat_natCast] at a0
      obtain ⟨q, hq⟩ : ∃ q, rdOf 0 l0 (j : Int) = q := ⟨_, rfl⟩
      rw [hq] at a0
      have HQ := Aside0.mk hq
      clear hq
      obtain ⟨mm, hmm⟩ : ∃ mm, (if (4 : Int) < q then (4 : Int) else q) = mm := ⟨_, rfl⟩
      have HMM := Aside0.mk (show mn (rdOf 0 l0 (j : Int)) 4 = mm ∧ mm ≤ 4 from by
        rw [HQ.out, mn, hmm]; refine ⟨rfl, ?_⟩; split at hmm <;> omega)
      go_wp2_with fail
      have hmm4 : mm ≤ 4 := HMM.out.2
      clear hmm a0
      go_loopw [4, 23] (fun v c wr => ∃ (k : Nat), (k ≤ mm.toNat) ∧ c = .int .i64 k ∧ Aside0 (Kd.R k27 27 wr w.heap.size (fun _ => True) v (edgesE l0 L j ++ rowE L j k)) ∧ Aside0 (MapAt wr g encP encP L) ∧ Aside0 (Below w.heap.size w wr)) (fun _ c _ => mm.toNat - (intOf c).toNat)
      case atStart => exact ⟨0, Nat.zero_le _, rfl, ⟨by rw [rowE, List.append_nil]; exact HR.out⟩, HMP, HB⟩
      case round =>
        clear HR HMP HB
        obtain ⟨k, hk, rfl, HR, HMP, HB⟩ := hrel
        by_cases hlk : (k : Int) < mm
        · have hS := Aside0.mk (show (edgesE l0 L j ++ rowE L j k).length ≤ 4 * j + k from by
            rw [List.length_append]; have := edgesE_len l0 L j; have := rowE_len L j k; omega)
          have HE := Aside0.mk (show edgesE l0 L j ++ rowE L j (k + 1) = (edgesE l0 L j ++ rowE L j k) ++ (if (look L ⟨(j : Int), (k : Int)⟩).isSome then [] else [⟨(j : Int), (k : Int)⟩]) from by rw [rowE, List.append_assoc])
          obtain ⟨qq, hqq⟩ : ∃ qq, (look L ⟨(j : Int), (k : Int)⟩).getD z27 = qq := ⟨_, rfl⟩
          obtain ⟨bb, hbb⟩ : ∃ bb, (look L ⟨(j : Int), (k : Int)⟩).isSome = bb := ⟨_, rfl⟩
          rw [hbb] at HE
          have hlkp := look_all g L ⟨(j : Int), (k : Int)⟩ qq bb hqq hbb _ (HMP.out.alloc (.cells #[.int .i64 (j : Int), .int .i64 (k : Int)] 27))
          clear hqq hbb
          obtain ⟨X, hX⟩ : ∃ X, edgesE l0 L j ++ rowE L j k = X := ⟨_, rfl⟩
          rw [hX] at HR HE hS
          clear hX
          cases bb with
          | true =>
            have hb1 := HB.out.alloc HB.out.size (.cells #[.int .i64 (j : Int), .int .i64 (k : Int)] 27)
            have HB3 := Aside0.mk (hb1.alloc hb1.size (.cells #[.int .i64 qq.f0, .int .i64 qq.f1] 27))
            clear hb1
            go_wp2_with fail
            go_roundw
            case rel => exact ⟨k + 1, by omega, by go_num, ⟨by rw [HE.out]; simp only [if_true, List.append_nil]; exact Kd.R_alloc (Kd.R_alloc HR.out _) _⟩, ⟨(HMP.out.alloc _).alloc _⟩, HB3⟩
            case measure => simp [intOf]; omega
          | false =>
            have HRW := Aside0.mk (Kd.R_alloc (Kd.R_alloc HR.out (.cells #[.int .i64 (j : Int), .int .i64 (k : Int)] 27)) (.cells #[.int .i64 qq.f0, .int .i64 qq.f1] 27))
            have hb1 := HB.out.alloc HB.out.size (.cells #[.int .i64 (j : Int), .int .i64 (k : Int)] 27)
            have HB3 := Aside0.mk (hb1.alloc hb1.size (.cells #[.int .i64 qq.f0, .int .i64 qq.f1] 27))
            have HM3 := Aside0.mk ((HMP.out.alloc (.cells #[.int .i64 (j : Int), .int .i64 (k : Int)] 27)).alloc (.cells #[.int .i64 qq.f0, .int .i64 qq.f1] 27))
            have HGE := Aside0.mk (fun k' (hk' : u4.ownBlock = some k') => MapAt.ne_own HM3.out HRW.out k' hk')
            clear hb1
            go_wp2_with (first
              | ((with_reducible refine gate_builtin (b := .append) (xs := #[.tmp 37, .tmp 39]) rfl ?_); at_builtin; refine Kd.R_append k27 (w0 := w) w.heap.size rfl (.tmp 37) (.tmp 39) 33 27 (.agg #[(.int .i64 0), (.int .i64 0)]) 16 rfl Try.underlying33 info27 rfl (by decide) (by omega) u4 X (⟨(j : Int), (k : Int)⟩ : S27) [.int .i64 (j : Int), .int .i64 (k : Int)] (fun _ => True) (fun _ => False) rfl (by first | (go_simp; done) | (go_simp; rfl)) ?aP (fun _ hk => hk.elim) (fun _ _ => trivial) HRW.out HB3.out HB3.out.size ?aL ?_; (case aP => exact k27_mkM _ _ _ (⟨(j : Int), (k : Int)⟩ : S27)); (case aL => have := hS.out; have := HM.out; omega); intro v1 w3 hv1 hb3 hg3 ho3; have HV := Aside0.mk hv1; have HB4 := Aside0.mk hb3; have HM4 := Aside0.mk (MapAt.grown HM3.out hg3 HGE.out); clear hv1 hb3 hg3 ho3))
            go_roundw
            case rel => exact ⟨k + 1, by omega, by go_num, ⟨by rw [HE.out]; exact HV.out⟩, HM4, HB4⟩
            case measure => simp [intOf]; omega
        · obtain ⟨rfl⟩ : mm.toNat = k := by omega
          go_wp2_with fail
          go_roundw
          case rel => exact ⟨j + 1, by omega, by go_num, ⟨by rw [edgesE, HMM.out.1]; exact HR.out⟩, HMP, HB⟩
          case measure => simp [intOf]; omega
    · obtain rfl : j = l0.length := by omega
      go_wp2
      go_ret
      exact ⟨⟨_, rfl, HR.out⟩, HB.out⟩
end Go.Proofs.Ytglfpobapkkgdaa.H
