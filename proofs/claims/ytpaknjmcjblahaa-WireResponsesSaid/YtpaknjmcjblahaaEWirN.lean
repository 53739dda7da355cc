/- WirN. -/
import Derived.Test.YtpaknjmcjblahaaEWirF
import Derived.Test.YtpaknjmcjblahaaEWirH
import Derived.Test.YtpaknjmcjblahaaEWirJ
import Derived.Test.YtpaknjmcjblahaaEWir7
import Derived.Deep.RegionHeld3
import Derived.Test.YtpaknjmcjblahaaEWirM
import Derived.Test.YtpaknjmcjblahaaEPx3
import Derived.Lib.SlBytesConst
namespace Go.Proofs.Ytpaknjmcjblahaa.H
open Go.RowKit Go.Proofs.Ytpaknjmcjblahaa.P Go.Proofs.YtpaknjmcjblahaaW.PrintWords Go.Proofs.YtpaknjmcjblahaaW.PrintLast Go.Proofs.YtpaknjmcjblahaaW.PrintMore
set_option linter.unusedVariables false
set_option linter.unusedSimpArgs false
set_option maxRecDepth 20000
def sX : ByteArray := ⟨#[120]⟩
def qX : Rq := ⟨4, 3, sX, 0, zRu, 0, 0, 0, 0, 0, 0, ⟨#[]⟩⟩
theorem rightX : rightQ qX = true := by
  have h1 : emptyS (⟨#[]⟩ : ByteArray) = true := by unfold emptyS; simp
  unfold rightQ qX edZ quZ
  simp only [h1]
  decide +kernel
theorem encX : encOut qX = ([4, 3, 1, 120], 0) := by
  unfold encOut
  rw [if_pos rightX]
  decide +kernel
theorem decX0 : decM [4, 3, 1, 120] = (qX, ⟨[], false⟩) := by
  have := decM_enc rightX ⟨⟨by decide, by decide⟩, by decide, by decide⟩ []
  rw [show encL qX ++ [] = [4, 3, 1, 120] from by decide +kernel] at this
  exact this
theorem decX : decOut [4, 3, 1, 120] = (qX, 0) := by
  unfold decOut
  rw [decX0]
  simp [rightX]
theorem ansX : ansOut ⟨0, 300, [5], [], false, 0, 0, [], 0, 0, 0⟩ = ([0, 241, 1, 44, 1, 5, 0, 0, 0, 0, 0, 0, 0, 0], 0) := by decide +kernel
theorem lit8 (l : List Int) (hl : l.length ≤ 1000) (W : World) (fr : Nat × Nat) : Kd.C (Kd.int .u8) (W.alloc (.cells (l.map (Value.int .u8)).toArray 5 fr)) (some ⟨W.heap.size, 0, none⟩) l.length l := by
  refine Kd.C_of_reads (h1 := fun _ => rfl) (d := 0) ⟨rfl, by omega, fun hn => ⟨_, rfl, fun j hj => ?_⟩⟩
  have h := World.cell?_alloc_mark W (l.map (Value.int .u8)).toArray 5 fr j
  have e : (⟨W.heap.size, 0, none⟩ : Addr).add j = ⟨W.heap.size, j, none⟩ := by simp only [Addr.add]; split <;> simp_all
  rw [e, h]
  rw [List.getElem?_toArray, List.getElem?_map, List.getElem?_eq_getElem hj, List.getD_eq_getElem?_getD, List.getElem?_eq_getElem hj]; rfl
theorem nilI (W : World) : Kd.C (Kd.int .i64) W none ([] : List Int).length [] := Kd.C_of_reads (h1 := fun _ => rfl) (d := 0) ⟨rfl, by simp, fun hn => absurd hn (by simp)⟩
theorem nilR (W : World) : Kd.C k29 W none ([] : List Ru).length [] := by
  obtain ⟨A, c, e, h1, h2⟩ := Kd.R_reads (Kd.R_nil k29 29 W 0 (fun _ => True))
  injection e with e1 e2 e3
  rw [e1]; exact h2
theorem conv_S (L : List Int) (w : World) (A : Option Addr) (c : Nat) (h : Kd.C (Kd.int .u8) w A L.length L) : (convert 37 9 (.slice A L.length c)).run Try.prog w = .ok (.string (strOfNums L)) w :=
  Kd.C_string (P := Try.prog) (w := w) (A := A) (n := L.length) (xs := L) (src := 37) (dst := 9) (c := c) Try.underlying37 Try.underlying5 Try.underlying9 h
theorem okRq0 (a b : Int) (s : ByteArray) : okRq ⟨a, b, s, 0, zRu, 0, 0, 0, 0, 0, 0, ⟨#[]⟩⟩ := ⟨okRu0, ok0, ok0⟩
theorem ce_alive (W : World) : Calls Try.prog 10 #[.agg #[.int .i64 4, .int .i64 3, .string ⟨#[120]⟩, .int .i64 0, .int .i64 0, .int .i64 0, .int .i64 0, .int .i64 0, .int .u32 0, .int .u32 0, .int .i64 0, .int .i64 0, .int .i64 0, .int .i64 0, .int .i64 0, .int .u32 0, .int .u32 0, .string ⟨#[]⟩]] W fun e w' => (∃ A c, e = .returned (.tuple #[.slice A 4 c, .int .i64 0]) ∧ Kd.C (Kd.int .u8) w' A 4 [4, 3, 1, 120]) ∧ Below W.heap.size W w' := by
  refine (enc_any qX (okRq0 4 3 sX) W).mono ?_
  rintro e w' ⟨⟨v, rfl, hR⟩, hb⟩
  rw [encX] at hR ⊢
  obtain ⟨A, c, rfl, _, h⟩ := Kd.R_reads hR
  exact ⟨⟨A, c, rfl, h⟩, hb⟩
theorem cd_alive (W : World) : Calls Try.prog 12 #[.slice (some ⟨W.heap.size, 0, none⟩) 4 4] (W.alloc (.cells #[.int .u8 4, .int .u8 3, .int .u8 1, .int .u8 120] 5 (4, 5))) fun e w' => e = .returned (.tuple #[.agg #[.int .i64 4, .int .i64 3, .string ⟨#[120]⟩, .int .i64 0, .int .i64 0, .int .i64 0, .int .i64 0, .int .i64 0, .int .u32 0, .int .u32 0, .int .i64 0, .int .i64 0, .int .i64 0, .int .i64 0, .int .i64 0, .int .u32 0, .int .u32 0, .string ⟨#[]⟩], .int .i64 0]) ∧ Below W.heap.size W w' := by
  have hb := (Below.refl W.heap.size W).alloc (Nat.le_refl _) (.cells #[.int .u8 4, .int .u8 3, .int .u8 1, .int .u8 120] 5 (4, 5))
  refine (dec_any (some ⟨W.heap.size, 0, none⟩) 4 [4, 3, 1, 120] _ (lit8 [4, 3, 1, 120] (by decide) W (4, 5)) (by decide) (by decide) (by unfold bytes; decide)).mono ?_
  rintro e w' ⟨rfl, hb2⟩
  rw [decX]
  exact ⟨rfl, hb.trans (hb2.mono hb.size)⟩
theorem cn_alive (W : World) : Calls Try.prog 17 #[.agg #[.int .i64 0, .int .i64 300, .slice (some ⟨W.heap.size, 0, none⟩) 1 1, .slice none 0 0, .bool false, .int .i64 0, .int .u32 0, .slice none 0 0, .int .i64 0, .int .i64 0, .int .i64 0]] (W.alloc (.cells #[.int .i64 5] 3)) fun e w' => (∃ A c, e = .returned (.tuple #[.slice A 14 c, .int .i64 0]) ∧ Kd.C (Kd.int .u8) w' A 14 [0, 241, 1, 44, 1, 5, 0, 0, 0, 0, 0, 0, 0, 0]) ∧ Below W.heap.size W w' := by
  have hb := (Below.refl W.heap.size W).alloc (Nat.le_refl _) (.cells #[.int .i64 5] 3)
  refine (ans_any ⟨0, 300, [5], [], false, 0, 0, [], 0, 0, 0⟩ (some ⟨W.heap.size, 0, none⟩) 1 none 0 none 0 _ (litC [5] (by decide) W) (nilR _) (nilI _) (fun x hx => by cases hx) ⟨by decide, by decide⟩).mono ?_
  rintro e w' ⟨⟨v, rfl, hR⟩, hb2⟩
  rw [ansX] at hR ⊢
  obtain ⟨A, c, rfl, _, h⟩ := Kd.R_reads hR
  exact ⟨⟨A, c, rfl, h⟩, hb.trans (hb2.mono hb.size)⟩
theorem below_row {B : Nat} {w w1 : World} (h : Below B w w1) {g : Nat} (hg : B ≤ g) {C : Array Value} : Below B w (w1.setRow g C) :=
  ⟨h.os, h.tape, h.output, by rw [size_setRow]; exact h.size, fun k hk => (heap_setRow (by omega)).trans (h.block k hk)⟩
set_option maxHeartbeats 8000000 in
theorem alive_any (w : World) : Calls Try.prog 9 #[] w fun e w' => e = .returned (.bool true) ∧ Below w.heap.size w w' := by
  go_enter Try.func9, Try.ntmps9
  go_wp2_with fail
  refine (ce_alive w).mono ?_
  rintro e w1 ⟨⟨A1, c1, rfl, hC1⟩, hb⟩
  have HB := Aside0.mk hb
  have HC1 := Aside0.mk hC1
  clear hb hC1
  have hid := fun (w : World) (C : Array Value) (n c : Nat) => Lib.run_convert_bytes_const (P := Try.prog) w 37 5 C n c Try.underlying37 Try.underlying5
  go_wp2_with fail
  refine (cd_alive w1).mono ?_
  rintro e w2 ⟨rfl, hb⟩
  replace HC1 := Aside0.mk (Kd.C_below HC1.out hb)
  replace HB := Aside0.mk (HB.out.trans (hb.mono HB.out.size))
  clear hb hid
  have hbn := (Below.refl w2.heap.size w2).alloc (Nat.le_refl _) (.cells #[.int .i64 0, .int .i64 0, .string ⟨#[]⟩, .int .i64 0, .int .i64 0, .int .i64 0, .int .i64 0, .int .i64 0, .int .u32 0, .int .u32 0, .int .i64 0, .int .i64 0, .int .i64 0, .int .i64 0, .int .i64 0, .int .u32 0, .int .u32 0, .string ⟨#[]⟩] 36)
  have KP := Aside0.mk (blk_new w2 (.cells #[.int .i64 0, .int .i64 0, .string ⟨#[]⟩, .int .i64 0, .int .i64 0, .int .i64 0, .int .i64 0, .int .i64 0, .int .u32 0, .int .u32 0, .int .i64 0, .int .i64 0, .int .i64 0, .int .i64 0, .int .i64 0, .int .u32 0, .int .u32 0, .string ⟨#[]⟩] 36))
  have hbr := below_row (B := w2.heap.size) hbn (Nat.le_refl _) (C := #[.int .i64 4, .int .i64 3, .string ⟨#[120]⟩, .int .i64 0, .int .i64 0, .int .i64 0, .int .i64 0, .int .i64 0, .int .u32 0, .int .u32 0, .int .i64 0, .int .i64 0, .int .i64 0, .int .i64 0, .int .i64 0, .int .u32 0, .int .u32 0, .string ⟨#[]⟩])
  replace HC1 := Aside0.mk (Kd.C_below HC1.out hbr)
  replace HB := Aside0.mk (HB.out.trans (hbr.mono HB.out.size))
  clear hbn hbr
  try dsimp only
  repeat ((fail_if_success (show Oper.wp _ (Oper.mk none (Op.store _ _ _) _ _ _ _) _ _ _ _)); (first | go_values | go_skip | go_guarded | go_step | go_upon | go_back))
  refine wp_store_row (c' := #[.int .i64 4, .int .i64 3, .string ⟨#[120]⟩, .int .i64 0, .int .i64 0, .int .i64 0, .int .i64 0, .int .i64 0, .int .u32 0, .int .u32 0, .int .i64 0, .int .i64 0, .int .i64 0, .int .i64 0, .int .i64 0, .int .u32 0, .int .u32 0, .string ⟨#[]⟩]) KP.out rfl rfl rfl rfl (by kernel_rfl) rfl (by simp [Value.oneCell']) ?_
  replace KP := Aside0.mk (heap_setRow_self (cs := #[.int .i64 4, .int .i64 3, .string ⟨#[120]⟩, .int .i64 0, .int .i64 0, .int .i64 0, .int .i64 0, .int .i64 0, .int .u32 0, .int .u32 0, .int .i64 0, .int .i64 0, .int .i64 0, .int .i64 0, .int .i64 0, .int .u32 0, .int .u32 0, .string ⟨#[]⟩]) KP.out)
  generalize ((w2.alloc (.cells #[.int .i64 0, .int .i64 0, .string ⟨#[]⟩, .int .i64 0, .int .i64 0, .int .i64 0, .int .i64 0, .int .i64 0, .int .u32 0, .int .u32 0, .int .i64 0, .int .i64 0, .int .i64 0, .int .i64 0, .int .i64 0, .int .u32 0, .int .u32 0, .string ⟨#[]⟩] 36)).setRow w2.heap.size #[.int .i64 4, .int .i64 3, .string ⟨#[120]⟩, .int .i64 0, .int .i64 0, .int .i64 0, .int .i64 0, .int .i64 0, .int .u32 0, .int .u32 0, .int .i64 0, .int .i64 0, .int .i64 0, .int .i64 0, .int .i64 0, .int .u32 0, .int .u32 0, .string ⟨#[]⟩]) = w3 at *
  obtain ⟨g, hg⟩ : ∃ g, w2.heap.size = g := ⟨_, rfl⟩
  rw [hg] at KP ⊢
  clear hg
  go_wp2_with fail
  refine (cn_alive w3).mono ?_
  rintro e w4 ⟨⟨A4, c4, rfl, hC4⟩, hb⟩
  replace KP := Aside0.mk (blk_below KP.out hb)
  replace HC1 := Aside0.mk (Kd.C_below HC1.out hb)
  replace HB := Aside0.mk (HB.out.trans (hb.mono HB.out.size))
  have k1 := blk_cell KP.out 1
  have k2 := blk_cell KP.out 2
  have s1 := conv_S [4, 3, 1, 120] w4 A1 c1 HC1.out
  have s2 := conv_S [0, 241, 1, 44, 1, 5, 0, 0, 0, 0, 0, 0, 0, 0] w4 A4 c4 hC4
  rw [show strOfNums [4, 3, 1, 120] = ⟨#[4, 3, 1, 120]⟩ from by decide +kernel] at s1
  rw [show strOfNums [0, 241, 1, 44, 1, 5, 0, 0, 0, 0, 0, 0, 0, 0] = ⟨#[0, 241, 1, 44, 1, 5, 0, 0, 0, 0, 0, 0, 0, 0]⟩ from by decide +kernel] at s2
  simp only [List.length_cons, List.length_nil, Nat.zero_add, Nat.reduceAdd] at s1 s2
  clear hb hC4
  go_wp2_with fail
  go_ret
  exact ⟨rfl, HB.out⟩
def fitsB (r : Rq) (s : Rs) : Bool := decide ((r.nm.size : Int) ≤ 2000) && (decide ((r.qo.size : Int) ≤ 2000) && (decide ((s.ids.length : Int) ≤ 200) && (decide ((s.rules.length : Int) ≤ 200) && decide ((s.dv.length : Int) ≤ 200))))
theorem fits_any (r : Rq) (s : Rs) (A2 : Option Addr) (c2 : Nat) (A3 : Option Addr) (c3 : Nat) (A7 : Option Addr) (c7 : Nat) (w : World)
    (h2 : Kd.C (Kd.int .i64) w A2 s.ids.length s.ids) (g2 : s.ids.length ≤ c2) (h3 : Kd.C k29 w A3 s.rules.length s.rules) (g3 : s.rules.length ≤ c3) (h7 : Kd.C (Kd.int .i64) w A7 s.dv.length s.dv) (g7 : s.dv.length ≤ c7) :
    Calls Try.prog 8 #[.agg (rqVals r).toArray, .agg (rsVals (.slice A2 s.ids.length c2) (.slice A3 s.rules.length c3) (.slice A7 s.dv.length c7) s).toArray] w fun e w' => e = .returned (.bool (fitsB r s)) ∧ Below w.heap.size w w' := by
  refine Go.Proofs.Ytpaknjmcjblahaa.P.waystonelaw17_fits.calls r.k r.s r.nm r.ek r.ru.f0 r.ru.f1 r.ru.f2 r.ru.f3 r.ru.f4.f0 r.ru.f4.f1 r.ru.f5 r.qk r.qa r.qb r.qw r.qf r.qt r.qo s.e s.n A2 c2 s.ids A3 c3 s.rules s.h s.fr s.ad A7 c7 s.dv s.ft s.od s.op (fitsB r s) w h2 g2 h3 g3 h7 g7 ?_
  unfold Go.Proofs.Ytpaknjmcjblahaa.P.waystonelaw17_fits.f fitsB
  by_cases a : (r.nm.size : Int) ≤ 2000
  · by_cases b : (r.qo.size : Int) ≤ 2000
    · by_cases c : (s.ids.length : Int) ≤ 200
      · by_cases d : (s.rules.length : Int) ≤ 200
        · rw [if_pos a, if_pos b, if_pos c, if_pos d, decide_eq_true a, decide_eq_true b, decide_eq_true c, decide_eq_true d]; simp
        · rw [if_pos a, if_pos b, if_pos c, if_neg d, decide_eq_false d]; simp
      · rw [if_pos a, if_pos b, if_neg c, decide_eq_false c]; simp
    · rw [if_pos a, if_neg b, decide_eq_false b]; simp
  · rw [if_neg a, decide_eq_false a]; simp
theorem exec_load_row {P : Program} {o : Oper} {f : Operand → Value} {w : World} {t ty : TypeId} {x : Operand} {g : Nat} {c : Array Value} {d : TypeDesc}
    (hg : w.heap[g]? = some (.cells c ty (0, 0))) (ho : o.op = .load t x) (hx : f x = .pointer (some ⟨g, 0, none⟩))
    (hu : P.underlying t = some d) (hd : (match d with | .struct _ | .array _ _ => true | _ => false) = true) (hi : (P.info? t).map (·.size) = some c.size) : (execOp f o).run P w = .ok (.value (.agg c)) w := by
  have hst := run_loadVar_row (P := P) w g ty t c (0, 0) d hg hu hd hi
  unfold execOp
  rw [ho]
  simp only [hx, Instr.loadAt, Instr.sureAddr, Sem.run_bind, Sem.run_pure, Result.andThen, hst]
end Go.Proofs.Ytpaknjmcjblahaa.H
