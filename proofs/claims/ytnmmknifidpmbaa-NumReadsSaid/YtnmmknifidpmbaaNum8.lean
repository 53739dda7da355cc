import Derived.Test.YtnmmknifidpmbaaNum7
namespace Go.Proofs.Ytnmmknifidpmbaa.H
open Go.RowKit Go.Proofs.Ytnmmknifidpmbaa.P Go.Proofs.YtnmmknifidpmbaaW.PrintWords Go.Proofs.YtnmmknifidpmbaaW.PrintLast Go.Proofs.YtnmmknifidpmbaaW.PrintMore
set_option linter.unusedVariables false
set_option linter.unusedSimpArgs false

theorem RD.set {w : World} {g : Nat} {l : List Int} (h : RD w g l) {B : Option Addr} {n : Nat} {m : List Int} (hC : Kd.C (Kd.int .u8) w B n m) (v : Value) : Kd.C (Kd.int .u8) (w.setCell ⟨g, 0, none⟩ v) B n m := by
  obtain ⟨A, c, hg, _, _⟩ := h
  exact C_setCell hC hg (fun _ _ h => h) (RD.apart hg hC)
theorem RD.below {w w' : World} {g : Nat} {l : List Int} (h : RD w g l) (hb : Below w.heap.size w w') : RD w' g l := by
  obtain ⟨A, c, hg, hc, hr⟩ := h
  exact ⟨A, c, blk_below hg hb, hc, Kd.C_below hr hb⟩

def L1 : List Int := [241, 1, 44]
def L2 : List Int := [241, 1, 44, 2, 104, 105]
def L3 : List Int := [2, 104, 105]
theorem L1_eq : put (300 : Int).toNat = L1 := by decide +kernel
theorem L2_eq : L1 ++ put (⟨#[104, 105]⟩ : ByteArray).size ++ bytesOf ⟨#[104, 105]⟩ = L2 := by decide +kernel
theorem L2_next : nextS L2 = (300, 3) := by decide +kernel
theorem L3_eq : L2.drop 3 = L3 := rfl
theorem L3_next : nextS L3 = (2, 1) := by decide +kernel
theorem bytes_L2 : bytes L2 := by unfold bytes L2; decide
theorem bytes_L3 : bytes L3 := by unfold bytes L3; decide
theorem L2_str : strOfNums L2 = ⟨#[241, 1, 44, 2, 104, 105]⟩ := by decide +kernel
theorem L3_str : strOfNums ((L3.take (1 + (2 : Int).toNat)).drop 1) = ⟨#[104, 105]⟩ := by decide +kernel
theorem L3_drop : L3.drop (1 + (2 : Int).toNat) = [] := by decide +kernel

theorem alive_any (w : World) : Calls Try.prog 13 #[] w fun e w' => e = .returned (.bool true) ∧ Below w.heap.size w w' := by
  have h1 := fun w => put_nil 300 w (by decide) (by decide)
  have h2 := fun A c w h hc => text_put A c L1 ⟨#[104, 105]⟩ w h hc (by decide)
  simp only [L1_eq] at h1
  simp only [L2_eq] at h2
  have h4 := fun g w (h : RD w g L2) => number_yes g L2 300 w h bytes_L2 (by rw [L2_next]; decide) (by rw [L2_next]; decide)
  simp only [L2_next, L3_eq] at h4
  have h5 := fun g w (h : RD w g L3) => text_yes g L3 2 w h bytes_L3 (by decide) (by rw [L3_next]; decide) (by rw [L3_next]; decide) (by decide) (by rw [L3_next]; decide) (by rw [L3_next]; decide)
  simp only [L3_next, L3_str, L3_drop] at h5
  have H1 := Aside0.mk h1
  have H2 := Aside0.mk h2
  have H4 := Aside0.mk h4
  have H5 := Aside0.mk h5
  have hl : L2.length = 6 := rfl
  have HL := Aside0.mk hl
  clear h1 h2 h4 h5 hl
  have hll : L2.length < 140737488355328 := by rw [HL.out]; decide
  generalize hL1 : L1 = l1 at *
  have HS := Aside0.mk L2_str
  generalize hL2 : L2 = l2 at *
  generalize hL3 : L3 = l3 at *
  clear hL1 hL2 hL3 HL
  have HLL := Aside0.mk hll
  clear hll
  go_enter Try.func13, Try.ntmps13
  go_wp2_with (first
    | (go_at_call 9; refine (H1.out _).mono ?_; rintro e w1 ⟨⟨A1, c1, rfl, hc1, ho1⟩, hb1⟩; have HC1 := Aside0.mk (OwnBytes.C ho1); have HB1 := Aside0.mk hb1; clear ho1 hb1)
    | (go_at_call 10; refine (H2.out A1 c1 _ HC1.out hc1).mono ?_; rintro e w2 ⟨⟨A2, c2, rfl, hc2, ho2⟩, hb2⟩; have HC2 := Aside0.mk (OwnBytes.C ho2); have HB2 := Aside0.mk (HB1.out.trans (hb2.mono HB1.out.size)); clear ho2 hb2)
    | (go_at_call 14; refine (open_any A2 c2 l2 _ HC2.out hc2 HLL.out).mono ?_; rintro e w3 ⟨g, rfl, hrd, hg1, hg2, hb3⟩; have HC3 := Aside0.mk (Kd.C_below HC2.out hb3); have HB3 := Aside0.mk (HB2.out.trans (hb3.mono HB2.out.size)); have HR3 := Aside0.mk hrd; have HG := Aside0.mk (Nat.le_trans HB2.out.size hg1); clear hrd hb3 hg1 hg2)
    | (go_at_call 15; refine (H4.out g _ HR3.out).mono ?_; rintro e w4 ⟨rfl, v4, hw4, hrd⟩; have HC4 := Aside0.mk (hw4 ▸ RD.set HR3.out HC3.out v4); have HB4 := Aside0.mk (hw4 ▸ HB3.out.setCell HG.out v4); have HR4 := Aside0.mk hrd; clear hrd hw4)
    | (go_at_call 17; refine (H5.out g _ HR4.out).mono ?_; rintro e w5 ⟨rfl, v5, hw5, hrd⟩; have HC5 := Aside0.mk (hw5 ▸ RD.set HR4.out HC4.out v5); have HB5 := Aside0.mk (hw5 ▸ HB4.out.setCell HG.out v5); have HR5 := Aside0.mk hrd; clear hrd hw5; have hst := HS.out ▸ Kd.C_string (P := Try.prog) (src := 23) (dst := 9) (c := c2) Try.underlying23 Try.underlying5 Try.underlying9 HC5.out)
    | (go_at_call 19; refine (left_any g [] _ HR5.out).mono ?_; rintro e w6 ⟨rfl, rfl⟩))
  go_ret
  exact ⟨rfl, HB5.out⟩
end Go.Proofs.Ytnmmknifidpmbaa.H
