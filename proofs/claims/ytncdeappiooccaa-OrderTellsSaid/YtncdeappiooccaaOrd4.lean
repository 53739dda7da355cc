/- slices.DeleteFunc on numbers: walked. -/
import Derived.Test.YtncdeappiooccaaOrd3
namespace Go.Proofs.Ytncdeappiooccaa.H
open Go.RowKit Go.Proofs.Ytncdeappiooccaa.P Go.Proofs.YtncdeappiooccaaW.PrintWords Go.Proofs.YtncdeappiooccaaW.PrintLast Go.Proofs.YtncdeappiooccaaW.PrintMore
set_option linter.unusedVariables false
set_option linter.unusedSimpArgs false
/-- A row that is being cut: up to m what was kept of the first j, from j on what it was. -/
structure Cut (S g : Nat) (l : List Int) (p : Int → Bool) (j : Nat) (F : List Int) (w : World) : Prop where
  out : ∃ cs : Array Value, w.heap[g]? = some (.cells cs 3 (0, 0)) ∧ (l.length ≤ cs.size ∧ cs.size = S) ∧ (∀ (t : Nat) (y : Int), F[t]? = some y → cs[t]? = some (Value.int .i64 y)) ∧ (∀ (t : Nat) (y : Int), j ≤ t → l[t]? = some y → cs[t]? = some (Value.int .i64 y))
  eq : F = (l.take j).filter fun x => !p x
  le : F.length ≤ j
theorem Cut.C {S g : Nat} {l : List Int} {p : Int → Bool} {j : Nat} {F : List Int} {w : World} (h : Cut S g l p j F w) (hl : l.length ≤ 9223372036854775807) (hj : j ≤ l.length) : Kd.C (Kd.int .i64) w (some ⟨g, 0, none⟩) F.length F := by
  obtain ⟨cs, h1, h2, h3, h4⟩ := h.out
  refine ⟨rfl, by have := h.le; omega, fun _ => ⟨_, rfl, fun t y hy => ⟨[.int .i64 y], rfl, rfl, fun i u hu => ?_⟩⟩⟩
  match i, hu with
  | 0, hu =>
    simp at hu
    subst hu
    show w.cell? ((⟨g, 0, none⟩ : Addr).add (t * 1 + 0)) = _
    rw [add_plain, blk_cell h1, Nat.mul_one, Nat.add_zero]
    exact h3 t y hy
theorem Cut.grewK {S g : Nat} {l : List Int} {p : Int → Bool} {j : Nat} {F : List Int} {w w1 : World} (h : Cut S g l p j F w) (hb : Below w.heap.size w w1) : Cut S g l p j F w1 := by
  obtain ⟨cs, h1, h2⟩ := h.out
  exact ⟨⟨cs, blk_below h1 hb, h2⟩, h.eq, h.le⟩
theorem Cut.skip {S g : Nat} {l : List Int} {p : Int → Bool} {j : Nat} {F : List Int} {w : World} (h : Cut S g l p j F w) (y : Int) (hy : l[j]? = some y) (hp : p y = true) : Cut S g l p (j + 1) F w := by
  obtain ⟨cs, h1, h2, h3, h4⟩ := h.out
  refine ⟨⟨cs, h1, h2, h3, fun t y hj ht => h4 t y (by omega) ht⟩, ?_, by have := h.le; omega⟩
  have hlt := (List.getElem?_eq_some_iff.1 hy).1
  rw [List.take_succ_eq_append_getElem hlt, List.filter_append, ← h.eq]
  have e : l[j] = y := (List.getElem?_eq_some_iff.1 hy).2
  simp [e, hp]
theorem Cut.keep {S g : Nat} {l : List Int} {p : Int → Bool} {j : Nat} {F : List Int} {w : World} (h : Cut S g l p j F w) (y : Int) (hy : l[j]? = some y) (hp : p y = false) : Cut S g l p (j + 1) (F ++ [y]) (w.setCell ⟨g, F.length, none⟩ (.int .i64 y)) := by
  obtain ⟨cs, h1, h2, h3, h4⟩ := h.out
  have hlt := (List.getElem?_eq_some_iff.1 hy).1
  have hle := h.le
  refine ⟨⟨cs.setIfInBounds F.length (.int .i64 y), blk_set h1 _ _, by simpa using h2, fun t z ht => ?_, fun t z hj ht => ?_⟩, ?_, by simp; omega⟩
  · by_cases e : t = F.length
    · subst e
      rw [List.getElem?_append_right (Nat.le_refl _), Nat.sub_self] at ht
      simp at ht
      subst ht
      simp [Array.getElem?_setIfInBounds]
      omega
    · have hlt2 : t < F.length := by
        have := (List.getElem?_eq_some_iff.1 ht).1
        simp at this
        omega
      rw [List.getElem?_append_left hlt2] at ht
      rw [Array.getElem?_setIfInBounds, if_neg (by omega)]
      exact h3 t z ht
  · rw [Array.getElem?_setIfInBounds, if_neg (by omega)]
    exact h4 t z (by omega) ht
  · rw [List.take_succ_eq_append_getElem hlt, List.filter_append, ← h.eq]
    have e : l[j] = y := (List.getElem?_eq_some_iff.1 hy).2
    simp [e, hp]
theorem setCells_blk {g : Nat} : ∀ (vs : List Value) (o : Nat) {w : World} {cs : Array Value} {t : TypeId}, w.heap[g]? = some (.cells cs t (0, 0)) →
    ∃ cs', (w.setCells g o vs).heap[g]? = some (.cells cs' t (0, 0)) ∧ cs'.size = cs.size ∧ ∀ i, i < o → cs'[i]? = cs[i]?
  | [], o, w, cs, t, h => ⟨cs, h, rfl, fun _ _ => rfl⟩
  | v :: r, o, w, cs, t, h => by
    obtain ⟨cs', h1, h2, h3⟩ := setCells_blk r (o + 1) (blk_set h o v)
    refine ⟨cs', h1, by rw [h2]; simp, fun i hi => ?_⟩
    rw [h3 i (by omega), Array.getElem?_setIfInBounds, if_neg (by omega)]
/-- A block whose head is a list. -/
def BlkHas (S g : Nat) (F : List Int) (w : World) : Prop := ∃ cs : Array Value, w.heap[g]? = some (.cells cs 3 (0, 0)) ∧ cs.size = S ∧ ∀ (t : Nat) (y : Int), F[t]? = some y → cs[t]? = some (Value.int .i64 y)
theorem R_blk {S g B : Nat} {F : List Int} {w : World} (h : BlkHas S g F w) (hn : F.length ≤ S) (hm : S ≤ maxLen) (hB : B ≤ g) : Kd.R (Kd.int .i64) 3 w B (fun _ => True) (.slice (some ⟨g, 0, none⟩) F.length S) F := by
  obtain ⟨cs, h1, h2, h3⟩ := h
  refine ⟨fun _ _ => trivial, F.map (fun y => Value.int .i64 y), ⟨by rw [List.length_map]; exact (Nat.mul_one _).symm, .inr ⟨g, S, cs, rfl, hB, h1, hn, hm, by rw [h2]; exact (Nat.mul_one _).symm, ?_⟩⟩, ⟨by rw [List.length_map]; exact (Nat.mul_one _).symm, fun j y hy => ?_⟩⟩
  · rw [show F.length * (Kd.int IntKind.i64).sz = F.length from Nat.mul_one _]
    apply List.ext_getElem?
    intro t
    rw [List.getElem?_take, List.getElem?_map]
    by_cases e : t < F.length
    · rw [if_pos e, List.getElem?_eq_getElem e, Array.getElem?_toList]
      exact h3 t _ (List.getElem?_eq_getElem e)
    · rw [if_neg e, List.getElem?_eq_none (by omega)]; rfl
  · rw [show j * (Kd.int IntKind.i64).sz = j from Nat.mul_one _]
    show ((F.map (fun y => Value.int .i64 y)).drop j).take 1 = [Value.int .i64 y]
    have hj := (List.getElem?_eq_some_iff.1 hy).1
    rw [List.drop_eq_getElem_cons (by simpa using hj)]
    simp [(List.getElem?_eq_some_iff.1 hy).2]
/-- What DeleteFunc hands back: the row, cut. -/
def CutAt (S g c : Nat) (F : List Int) (w : World) (e : Ending) (w' : World) : Prop :=
  e = .returned (.slice (some ⟨g, 0, none⟩) F.length c) ∧ GrewK w w' g ∧ Kd.C (Kd.int .i64) w' (some ⟨g, 0, none⟩) F.length F ∧ F.length ≤ c ∧ BlkHas S g F w'
set_option maxHeartbeats 2000000 in
theorem df_any (g c : Nat) (l : List Int) (p : Int → Bool) (f : Nat) (lb : Array Value) (eg : ∀ args w, (callFunc f args).run Try.prog w = .ok (.enter f args) w) (w : World)
    (cs : Array Value) (hg : w.heap[g]? = some (.cells cs 3 (0, 0))) (hsz : l.length ≤ cs.size) (hcs : ∀ (t : Nat) (y : Int), l[t]? = some y → cs[t]? = some (Value.int .i64 y)) (hlc : l.length ≤ c) (hc : c ≤ 9223372036854775807) (hp : PredK p f lb g w) :
    Calls Try.prog 22 #[.slice (some ⟨g, 0, none⟩) l.length c, .func (.func f) #[] lb] w fun e w' => CutAt cs.size g c (l.filter fun x => !p x) w e w' := by
  have HC0 := Aside0.mk (show Cut cs.size g l p 0 [] w from ⟨⟨cs, hg, ⟨hsz, rfl⟩, fun t y h => by simp at h, fun t y _ h => hcs t y h⟩, by simp, Nat.le_refl _⟩)
  have hrC : Kd.C (Kd.int .i64) w (some ⟨g, 0, none⟩) l.length l := by
    refine ⟨rfl, by omega, fun _ => ⟨_, rfl, fun t y hy => ⟨[.int .i64 y], rfl, rfl, fun i u hu => ?_⟩⟩⟩
    match i, hu with
    | 0, hu =>
      simp at hu
      subst hu
      show w.cell? ((⟨g, 0, none⟩ : Addr).add (t * 1 + 0)) = _
      rw [add_plain, blk_cell hg, Nat.mul_one, Nat.add_zero]
      exact hcs t y hy
  have hI := idxf_any (some ⟨g, 0, none⟩) c l p f lb g eg w hrC (by omega) hp
  have HP := Aside0.mk hp
  have HRC := Aside0.mk hrC
  have HG := Aside0.mk hg
  have HCS := Aside0.mk hcs
  clear hg hcs hp hrC hsz
  go_enter Try.func22, Try.ntmps22
  go_wp2_with fail
  refine hI.mono ?_
  rintro e w1 ⟨hd, hb⟩
  have HB := Aside0.mk hb
  have HC1 := Aside0.mk (HC0.out.grewK hb)
  have HG1 := Aside0.mk (GrewK.of_below hb g)
  clear hI hb HC0
  have HKB := Aside0.mk (show BlkHas cs.size g l w1 from ⟨cs, blk_below HG.out HB.out, rfl, HCS.out⟩)
  rcases hd with ⟨hd, rfl⟩ | ⟨i, y, hi, rfl, hd, hpy, hbef⟩
  · have HF := Aside0.mk (show (l.filter fun x => !p x) = l from by
      rw [List.filter_eq_self]
      intro a ha
      have := List.any_eq_false.1 hd a ha
      simpa using this)
    clear hd
    go_wp2_with fail
    go_ret
    exact ⟨by rw [HF.out]; rfl, HG1.out, by rw [HF.out]; exact Kd.C_below HRC.out HB.out, by rw [HF.out]; exact hlc, by rw [HF.out]; exact HKB.out⟩
  · have hne : ((i : Int) == -1) = false := by rw [beq_eq_false_iff_ne]; omega
    have HS := Aside0.mk (show Cut cs.size g l p (i + 1) (l.take i) w1 from by
      have hk : ∀ n, n ≤ i → Cut cs.size g l p n (l.take n) w1 := by
        intro n hn
        obtain ⟨cs1, k1, k2, k3, k4⟩ := HC1.out.out
        refine ⟨⟨cs1, k1, k2, fun t z ht => ?_, fun t z _ ht => k4 t z (by omega) ht⟩, ?_, by rw [List.length_take]; omega⟩
        · have h2 := (List.getElem?_eq_some_iff.1 ht).1
          rw [List.length_take] at h2
          rw [List.getElem?_take_of_lt (by omega)] at ht
          exact k4 t z (by omega) ht
        · symm
          rw [List.filter_eq_self]
          intro a ha
          rw [hbef a (List.mem_of_mem_take (i := n) (by rw [List.take_take, Nat.min_eq_left hn]; exact ha))]
          rfl
      exact (hk i (Nat.le_refl _)).skip y hd hpy)
    have hil : (l.take i).length = i := by rw [List.length_take]; omega
    have HIL := Aside0.mk hil
    clear hil hd hpy hbef HC1
    go_wp2_with fail
    go_loopw [5, 6] (fun si sj wr => ∃ (j : Nat) (F : List Int), i + 1 ≤ j ∧ j ≤ l.length ∧ F.length + 1 ≤ j ∧ si = .int .i64 F.length ∧ sj = .int .i64 j ∧ Aside0 (Cut cs.size g l p j F wr) ∧ Aside0 (GrewK w wr g)) (fun _ sj _ => l.length - (intOf sj).toNat)
    case atStart => exact ⟨i + 1, l.take i, Nat.le_refl _, by omega, by rw [HIL.out]; exact Nat.le_refl _, by rw [HIL.out], rfl, HS, HG1⟩
    case round =>
      obtain ⟨j, F, hj0, hj, hFj, rfl, rfl, HC, HGK⟩ := hrel
      by_cases hlt : j < l.length
      · have hjl : (j : Int) < (l.length : Int) := by omega
        have HY := Aside0.mk (show l[j]? = some (l[j]) from List.getElem?_eq_getElem hlt)
        have hcell : wr.cell? ⟨g, j, none⟩ = some (.int .i64 l[j]) := by
          obtain ⟨cs1, k1, k2, k3, k4⟩ := HC.out.out
          rw [blk_cell k1]
          exact k4 j _ (Nat.le_refl _) (List.getElem?_eq_getElem hlt)
        generalize l[j] = y at HY hcell
        have hcall := HP.out wr y HGK.out
        cases hq : p y with
        | true =>
          rw [hq] at hcall
          have HQ := Aside0.mk hq
          clear hq
          go_wp2_with fail
          refine hcall.mono ?_
          rintro e w' ⟨rfl, hb'⟩
          have HC2 := Aside0.mk ((HC.out.grewK hb').skip y HY.out HQ.out)
          have HG2 := Aside0.mk (HGK.out.trans (GrewK.of_below hb' g))
          clear hcall hcell hb'
          go_wp2_with fail
          go_roundw
          case rel => exact ⟨j + 1, F, by omega, by omega, by omega, rfl, by go_num, HC2, HG2⟩
          case measure => simp [intOf]; omega
        | false =>
          rw [hq] at hcall
          have HQ := Aside0.mk hq
          clear hq
          go_wp2_with fail
          refine hcall.mono ?_
          rintro e w' ⟨rfl, hb'⟩
          have hc2 := HC.out.grewK hb'
          obtain ⟨cs1, k1, k2, _⟩ := hc2.out
          have hf := blk_frozen k1 F.length
          have hce : w'.cell? ⟨g, F.length, none⟩ = some (cs1[F.length]'(by have := hc2.le; omega)) := by rw [blk_cell k1]; exact Array.getElem?_eq_getElem _
          have HC2 := Aside0.mk (hc2.keep y HY.out HQ.out)
          have HG2 := Aside0.mk ((HGK.out.trans (GrewK.of_below hb' g)).set_ F.length (.int .i64 y))
          have hF0 : (0 : Int) ≤ (F.length : Int) := by omega
          have hFl : (F.length : Int) < (l.length : Int) := by omega
          generalize cs1[F.length]'(by have := hc2.le; omega) = old at hce
          clear hcall hcell hb' hc2 k1 k2
          go_wp2_with fail
          go_roundw
          case rel => exact ⟨j + 1, F ++ [y], by omega, by omega, by simp; omega, by simp, by go_num, HC2, HG2⟩
          case measure => simp [intOf]; omega
      · obtain rfl : j = l.length := by omega
        have hFle := HC.out.le
        have hE := HC.out.eq
        rw [List.take_length] at hE
        have HE := Aside0.mk hE
        have hKC := HC.out.C (by omega) (Nat.le_refl _)
        have hcl : ∀ ty, (Builtin.clear_ #[24] ty #[.slice (some ⟨g, F.length, none⟩) (l.length - F.length) (c - F.length)]).run Try.prog wr = .ok (.tuple #[]) (wr.setCells g F.length (List.replicate (l.length - F.length) (.int .i64 0))) := by
          intro ty
          obtain ⟨cs1, k1, k2, _⟩ := HC.out.out
          refine Lib.run_clear_slice wr 24 3 ty (.int .i64 0) rfl (fun w => by simp [go_sem]) rfl rfl g F.length _ _ (by omega) (fun j hj => ?_) (fun j hj => ?_)
          · rw [blk_cell k1, Array.getElem?_eq_getElem (by omega)]; rfl
          · exact blk_frozen k1 _
        have HW := Aside0.mk (show Kd.C (Kd.int .i64) (wr.setCells g F.length (List.replicate (l.length - F.length) (.int .i64 0))) (some ⟨g, 0, none⟩) F.length F from by
          obtain ⟨cs1, k1, k2, k3, _⟩ := HC.out.out
          obtain ⟨cs2, m1, m2, m3⟩ := setCells_blk (List.replicate (l.length - F.length) (.int .i64 0)) F.length k1
          refine ⟨rfl, by omega, fun _ => ⟨_, rfl, fun t y hy => ⟨[.int .i64 y], rfl, rfl, fun i u hu => ?_⟩⟩⟩
          match i, hu with
          | 0, hu =>
            simp at hu
            subst hu
            show World.cell? _ ((⟨g, 0, none⟩ : Addr).add (t * 1 + 0)) = _
            rw [add_plain, blk_cell m1, Nat.mul_one, Nat.add_zero, m3 _ (List.getElem?_eq_some_iff.1 hy).1]
            exact k3 t y hy)
        have HBH := Aside0.mk (show BlkHas cs.size g F (wr.setCells g F.length (List.replicate (l.length - F.length) (.int .i64 0))) from by
          obtain ⟨cs1, k1, k2, k3, _⟩ := HC.out.out
          obtain ⟨cs2, m1, m2, m3⟩ := setCells_blk (List.replicate (l.length - F.length) (.int .i64 0)) F.length k1
          exact ⟨cs2, m1, m2.trans k2.2, fun t y hy => (m3 t (List.getElem?_eq_some_iff.1 hy).1).trans (k3 t y hy)⟩)
        have HG2 := Aside0.mk (GrewK.setCells (List.replicate (l.length - F.length) (.int .i64 0)) F.length HGK.out)
        have hjf : ¬ ((l.length : Int) < (l.length : Int)) := by omega
        generalize (wr.setCells g F.length (List.replicate (l.length - F.length) (.int .i64 0))) = w2 at *
        clear hE hKC
        go_wp2
        go_ret
        exact ⟨by rw [← HE.out]; rfl, HG2.out, by rw [← HE.out]; exact HW.out, by rw [← HE.out]; omega, by rw [← HE.out]; exact HBH.out⟩
end Go.Proofs.Ytncdeappiooccaa.H
