/- Order, Pending: walked. -/
import Derived.Test.YtncdeappiooccaaOrd5
namespace Go.Proofs.Ytncdeappiooccaa.H
open Go.RowKit Go.Proofs.Ytncdeappiooccaa.P Go.Proofs.YtncdeappiooccaaW.PrintWords Go.Proofs.YtncdeappiooccaaW.PrintLast Go.Proofs.YtncdeappiooccaaW.PrintMore
set_option linter.unusedVariables false
set_option linter.unusedSimpArgs false
def orderL (h : List S47) : List Int := if rightH h then ofL h 2 else []
def orderE (h : List S47) : Int := if rightH h then 0 else 211
theorem order_any (A : Option Addr) (c : Nat) (h : List S47) (w : World) (hr : Kd.C k47 w A h.length h) (hc : h.length ≤ c) (hl : h.length ≤ 1000) :
    Calls Try.prog 8 #[.slice A h.length c] w fun e w' => ∃ v, e = .returned (.tuple #[v, .int .i64 (orderE h)]) ∧ Kd.R (Kd.int .i64) 3 w' w.heap.size (fun _ => True) v (orderL h) ∧ Below w.heap.size w w' := by
  have hp := right_any A c h w hr
  have HR := Aside0.mk hr
  clear hr
  have HE := Aside0.mk (show orderE h = if rightH h then 0 else 211 from rfl)
  have HL := Aside0.mk (show orderL h = if rightH h then ofL h 2 else [] from rfl)
  generalize orderE h = code at *
  generalize orderL h = rl at *
  cases hq : rightH h with
  | true =>
    rw [hq] at hp HE HL
    clear hq
    go_enter Try.func8, Try.ntmps8
    go_wp2_with fail
    refine hp.mono ?_
    rintro e w1 ⟨rfl, hb⟩
    have HB := Aside0.mk hb
    have hof := of_any A c h 2 w1 (Kd.C_below HR.out hb) hc hl
    clear hp hb
    go_wp2_with fail
    refine hof.mono ?_
    rintro e w2 ⟨v, rfl, hr2, hb2⟩
    have HB2 := Aside0.mk (HB.out.trans (hb2.mono HB.out.size))
    have HR2 := Aside0.mk (Kd.R_lower hr2 HB.out.size)
    clear hof hb2 hr2
    go_wp2_with fail
    go_ret2
    exact ⟨v, by rw [HE.out]; rfl, by rw [HL.out]; exact HR2.out, HB2.out⟩
  | false =>
    rw [hq] at hp HE HL
    clear hq
    go_enter Try.func8, Try.ntmps8
    go_wp2_with fail
    refine hp.mono ?_
    rintro e w1 ⟨rfl, hb⟩
    have HB := Aside0.mk hb
    clear hp hb
    go_wp2_with fail
    go_ret2
    exact ⟨_, by rw [HE.out]; rfl, by rw [HL.out]; exact Kd.R_nil _ _ _ _ _, HB.out⟩
theorem df_none (A : Option Addr) (c : Nat) (l : List Int) (p : Int → Bool) (g : Nat) (lb : Array Value) (k0 : Nat) (eg : ∀ args w, (callFunc g args).run Try.prog w = .ok (.enter g args) w) (w : World)
    (hr : Kd.C (Kd.int .i64) w A l.length l) (hl : l.length ≤ 9223372036854775807) (hn : l.any p = false) (hp : PredK p g lb k0 w) :
    Calls Try.prog 22 #[.slice A l.length c, .func (.func g) #[] lb] w fun e w' => e = .returned (.slice A l.length c) ∧ Below w.heap.size w w' := by
  have h := idxf_any A c l p g lb k0 eg w hr hl hp
  have HN := Aside0.mk hn
  clear hp hr hn
  go_enter Try.func22, Try.ntmps22
  go_wp2_with fail
  refine h.mono ?_
  rintro e w' ⟨hd, hb⟩
  rcases hd with ⟨hd, rfl⟩ | ⟨i, y, hi, rfl, hd, hpy, _⟩
  · clear hd h
    go_wp2_with fail
    go_ret
    exact ⟨rfl, hb⟩
  · have := HN.out
    rw [List.any_eq_false] at this
    exact absurd hpy (this y (List.mem_of_getElem? hd))
theorem row_cases {w : World} {B : Nat} {v : Value} {l : List Int} (h : Kd.R (Kd.int .i64) 3 w B (fun _ => True) v l) : (v = .slice none 0 0 ∧ l = []) ∨ ∃ g cap cur, v = .slice (some ⟨g, 0, none⟩) l.length cap ∧ B ≤ g ∧ w.heap[g]? = some (.cells cur 3 (0, 0)) ∧ l.length ≤ cap ∧ cap ≤ maxLen ∧ cur.size = cap ∧ (∀ (t : Nat) (y : Int), l[t]? = some y → cur[t]? = some (Value.int .i64 y)) ∧ Kd.C (Kd.int .i64) w (some ⟨g, 0, none⟩) l.length l := by
  obtain ⟨A2, c2, he, hl2, hC⟩ := Kd.R_reads h
  obtain ⟨inner, ho⟩ := Kd.R_own h
  rcases ho.2 with ⟨hv, hn⟩ | ⟨g, cap, cur, hv, hB, hh, hn, hm, hs, _⟩
  · exact .inl ⟨hv, List.length_eq_zero_iff.1 hn⟩
  · rw [hv] at he
    injection he with e1 e2 e3
    subst e1
    have hs' : cur.size = cap := by rw [hs]; exact Nat.mul_one _
    refine .inr ⟨g, cap, cur, hv, hB, hh, hn, hm, hs', fun t y hy => ?_, hC⟩
    obtain ⟨p, hp, hat⟩ := hC.2.2 (by have := (List.getElem?_eq_some_iff.1 hy).1; omega)
    cases hp
    obtain ⟨cs, hlen, hk, hcell⟩ := hat t y hy
    have hk' : cs = [Value.int .i64 y] := hk
    subst hk'
    have := hcell 0 _ rfl
    rw [show (Kd.int IntKind.i64).sz = 1 from rfl, Nat.mul_one, Nat.add_zero, add_plain, blk_cell hh] at this
    exact this
theorem pred_pending (h : List S47) (b g k : Nat) (w : World) (hb : w.heap[b]? = some (.cells #[.map (some g)] 50 (0, 0))) (hm : MapAt w g encE encN (idxL h)) (h1 : b ≠ k) (h2 : g ≠ k) :
    PredK (fun id => decide (0 < posE h ⟨3, id⟩)) 23 #[.pointer (some ⟨b, 0, none⟩)] k w := by
  intro W x hW
  have hbW := hW.blk hb h1
  have hmW : MapAt W g encE encN (idxL h) := by
    obtain ⟨es, cc, hg, hl⟩ := hm
    exact ⟨es, cc, hW.blk hg h2, hl⟩
  have l1 : (Instr.lookup 50 (.map (some g)) (.agg #[.int .i64 3, .int .i64 x]) false).run Try.prog W = .ok (.int .i64 (posE h ⟨3, x⟩)) W := look_e g (idxL h) ⟨3, x⟩ W hmW
  have c0 := blk_cell hbW 0
  show Calls Try.prog 23 #[.int .i64 x, .pointer (some ⟨b, 0, none⟩)] W fun e w' => e = .returned (.bool (decide (0 < posE h ⟨3, x⟩))) ∧ Below W.heap.size W w'
  generalize posE h ⟨3, x⟩ = v1 at l1 ⊢
  clear hW hbW hmW hb hm
  go_enter Try.func23, Try.ntmps23
  go_wp2_with fail
  go_ret
  exact ⟨rfl, Below.refl _ _⟩
theorem enters_23 : ∀ args w, (callFunc 23 args).run Try.prog w = .ok (.enter 23 args) w := enters' Try.func23 (by kernel_rfl) rfl
/-- Those that wait. -/
def pendL (h : List S47) : List Int := if rightH h then (ofL h 1).filter fun id => !decide (0 < posE h ⟨3, id⟩) else []
set_option maxHeartbeats 1000000 in
theorem pending_any (A : Option Addr) (c : Nat) (h : List S47) (w : World) (hr : Kd.C k47 w A h.length h) (hc : h.length ≤ c) (hl : h.length ≤ 1000) :
    Calls Try.prog 11 #[.slice A h.length c] w fun e w' => ∃ v, e = .returned v ∧ Kd.R (Kd.int .i64) 3 w' w.heap.size (fun _ => True) v (pendL h) ∧ Below w.heap.size w w' := by
  have hp := places_any A c h w hr
  have HR := Aside0.mk hr
  clear hr
  have HL := Aside0.mk (show pendL h = if rightH h then (ofL h 1).filter fun id => !decide (0 < posE h ⟨3, id⟩) else [] from rfl)
  generalize pendL h = rl at *
  go_enter Try.func11, Try.ntmps11
  go_wp2_with fail
  refine hp.mono ?_
  rintro e w1 hd
  clear hp
  rcases hd with ⟨hq, g, rfl, hm, hb⟩ | ⟨hq, rfl, hb⟩
  · rw [hq] at HL
    have HB := Aside0.mk hb
    have HM := Aside0.mk hm
    have HRR := Aside0.mk (Kd.C_below HR.out hb)
    clear hq hb hm HR
    have HBX := Aside0.mk (blk_new w1 (.cells #[.map (some g)] 50))
    have HMX := Aside0.mk (HM.out.alloc (.cells #[.map (some g)] 50))
    have HBW := Aside0.mk (HB.out.alloc HB.out.size (.cells #[.map (some g)] 50))
    have HRX := Aside0.mk (Kd.C_below HRR.out ((Below.refl w1.heap.size w1).alloc (Nat.le_refl _) (.cells #[.map (some g)] 50)))
    have HGL := Aside0.mk HM.out.lt
    clear HM HB HRR
    go_wp2_with fail
    generalize (w1.alloc (.cells #[.map (some g)] 50)) = w2 at *
    refine (of_any A c h 1 w2 HRX.out hc hl).mono ?_
    rintro e w3 ⟨v, rfl, hr2, hb2⟩
    have HBX3 := Aside0.mk (blk_below HBX.out hb2)
    have HMX3 := Aside0.mk (HMX.out.below hb2)
    have HBW3 := Aside0.mk (HBW.out.trans (hb2.mono HBW.out.size))
    have HLT := Aside0.mk (And.intro (blk_lt HBX.out) (HMX.out.lt))
    clear HBX HMX HRX hb2
    have hbx : w1.heap.size < w2.heap.size := HLT.out.1
    generalize w1.heap.size = bx at *
    rcases row_cases hr2 with ⟨rfl, hnil⟩ | ⟨g2, cap, cur, rfl, hg2, hh, hn, hcap, hsz, hcs, hC⟩
    · have HNL := Aside0.mk hnil
      have hdf := df_none none 0 [] (fun id => decide (0 < posE h ⟨3, id⟩)) 23 #[.pointer (some ⟨bx, 0, none⟩)] (bx + g + 1) enters_23 w3 (Kd.C_below (w := w3) (show Kd.C (Kd.int .i64) w3 none ([] : List Int).length [] from ⟨rfl, by decide, fun h => absurd h (by decide)⟩) (Below.refl _ _)) (by decide) rfl (pred_pending h bx g (bx + g + 1) w3 HBX3.out HMX3.out (by omega) (by omega))
      clear hr2 hnil
      go_wp2_with fail
      refine hdf.mono ?_
      rintro e w4 ⟨rfl, hb4⟩
      have HB4 := Aside0.mk (HBW3.out.trans (hb4.mono HBW3.out.size))
      clear hdf hb4
      go_wp2_with fail
      go_ret
      have e0 : rl = [] := by rw [HL.out, HNL.out]; rfl
      subst e0
      exact ⟨_, rfl, Kd.R_nil _ _ _ _ _, HB4.out⟩
    · have hgg := HLT.out.2
      have hdf := df_any g2 cap (ofL h 1) (fun id => decide (0 < posE h ⟨3, id⟩)) 23 #[.pointer (some ⟨bx, 0, none⟩)] enters_23 w3 cur hh (by rw [hsz]; exact hn) hcs hn (Nat.le_trans hcap (by decide)) (pred_pending h bx g g2 w3 HBX3.out HMX3.out (by omega) (by omega))
      have HG2 := Aside0.mk (And.intro hg2 (And.intro hcap hsz))
      have HLN := Aside0.mk hn
      clear hr2 hh hsz hcs hn hcap hC hgg hg2
      go_wp2_with fail
      refine hdf.mono ?_
      rintro e w4 ⟨rfl, hgk, _, hle, hbh⟩
      have HB4 := Aside0.mk (hgk.below HBW3.out (Nat.le_trans HBW.out.size HG2.out.1) HBW3.out.size)
      have HC4 := Aside0.mk (R_blk (B := w.heap.size) hbh (by rw [HG2.out.2.2]; exact hle) (by rw [HG2.out.2.2]; exact HG2.out.2.1) (Nat.le_trans HBW.out.size HG2.out.1))
      clear hdf hgk hbh hle
      go_wp2_with fail
      go_ret
      have e0 : rl = (ofL h 1).filter fun id => !decide (0 < posE h ⟨3, id⟩) := by rw [HL.out]; rfl
      rw [e0]
      exact ⟨_, rfl, by have := HC4.out; rw [HG2.out.2.2] at this; exact this, HB4.out⟩
  · rw [hq] at HL
    have HB := Aside0.mk hb
    clear hq hb
    go_wp2_with fail
    go_ret
    have e0 : rl = [] := by rw [HL.out]; rfl
    subst e0
    exact ⟨_, rfl, Kd.R_nil _ _ _ _ _, HB.out.alloc HB.out.size _⟩
end Go.Proofs.Ytncdeappiooccaa.H
