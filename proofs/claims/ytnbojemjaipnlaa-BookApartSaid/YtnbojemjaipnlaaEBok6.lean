/- Bok6. -/
import Derived.Test.YtnbojemjaipnlaaEBok5
import Derived.Lib.SliceRun
import Derived.Laws.IdiomCopy
import Derived.Laws.AppendOwn
import Derived.StillTailTactics
namespace Go.Proofs.Ytnbojemjaipnlaa.H
open Go.RowKit Go.Proofs.Ytnbojemjaipnlaa.P Go.Proofs.YtnbojemjaipnlaaW.PrintWords Go.Proofs.YtnbojemjaipnlaaW.PrintLast Go.Proofs.YtnbojemjaipnlaaW.PrintMore
set_option linter.unusedVariables false
set_option linter.unusedSimpArgs false
set_option maxRecDepth 20000
def ecells (r : Edi) : List Value := [.int .i64 r.f0, .int .i64 r.f1.f0, .int .i64 r.f1.f1, .int .i64 r.f1.f2, .int .i64 r.f1.f3, .int .u32 r.f1.f4.f0, .int .u32 r.f1.f4.f1, .int .i64 r.f1.f5]
theorem infoE : (Try.prog.info? 37).map (fun i => (i.zero, i.size, i.bytes)) = some (some (.agg #[(.int .i64 0), (.int .i64 0), (.int .i64 0), (.int .i64 0), (.int .i64 0), (.int .u32 0), (.int .u32 0), (.int .i64 0)]), 8, 56) := by kernel_rfl
def eflat (l : List Edi) : List Value := l.flatMap ecells
theorem eflat_len : ∀ l : List Edi, (eflat l).length = l.length * 8
  | [] => rfl
  | x :: t => by
    have := eflat_len t
    show (ecells x ++ eflat t).length = _
    rw [List.length_append, this, List.length_cons]
    show 8 + _ = _
    omega
theorem eflat_at : ∀ (l : List Edi) (j : Nat) (y : Edi), l[j]? = some y → ∀ i u, (ecells y)[i]? = some u → (eflat l)[j * 8 + i]? = some u
  | [], j, y, h => by simp at h
  | x :: t, 0, y, h => fun i u hu => by
    simp at h
    subst h
    have hi := (List.getElem?_eq_some_iff.1 hu).1
    show (ecells x ++ eflat t)[0 * 8 + i]? = _
    rw [show 0 * 8 + i = i by omega, List.getElem?_append_left hi]
    exact hu
  | x :: t, j + 1, y, h => fun i u hu => by
    have := eflat_at t j y (by simpa using h) i u hu
    show (ecells x ++ eflat t)[(j + 1) * 8 + i]? = _
    rw [show (j + 1) * 8 + i = 8 + (j * 8 + i) by omega, List.getElem?_append_right (by show 8 ≤ _; omega)]
    rw [show 8 + (j * 8 + i) - (ecells x).length = j * 8 + i by show 8 + _ - 8 = _; omega]
    exact this
theorem eflat_in : ∀ (l : List Edi) (k : Nat) (u : Value), (eflat l)[k]? = some u → ∃ j y i, l[j]? = some y ∧ (ecells y)[i]? = some u ∧ k = j * 8 + i
  | [], k, u, h => by simp [eflat] at h
  | x :: t, k, u, h => by
    change (ecells x ++ eflat t)[k]? = some u at h
    by_cases hk : k < 8
    · rw [List.getElem?_append_left (by show k < 8; exact hk)] at h
      exact ⟨0, x, k, rfl, h, by omega⟩
    · rw [List.getElem?_append_right (by show 8 ≤ k; omega)] at h
      obtain ⟨j, y, i, h1, h2, h3⟩ := eflat_in t (k - 8) u h
      exact ⟨j + 1, y, i, h1, h2, by omega⟩
theorem ecells_one (y : Edi) : ∀ u ∈ ecells y, u.oneCell' = true := by
  intro u hu
  simp [ecells] at hu
  rcases hu with rfl | rfl | rfl | rfl | rfl | rfl | rfl | rfl <;> rfl
theorem eflat_one (l : List Edi) : ∀ u ∈ eflat l, u.oneCell' = true := by
  intro u hu
  obtain ⟨y, _, h⟩ := List.mem_flatMap.1 hu
  exact ecells_one y u h
theorem reads_edits {w : World} {A : Option Addr} {l : List Edi} (h : Kd.C k37 w A l.length l) (ad : Addr) (e : A = some ad) : ∀ k u, (eflat l)[k]? = some u → w.cell? (ad.add k) = some u := by
  intro k u hu
  obtain ⟨j, y, i, h1, h2, rfl⟩ := eflat_in l k u hu
  have hj := (List.getElem?_eq_some_iff.1 h1).1
  obtain ⟨ad', c, e', _, hK, hc⟩ := Kd.C_get h z37 (j : Int) (by omega) (by omega)
  rw [e] at e'
  cases e'
  have hc : ∀ j' u, c[j']? = some u → w.cell? (ad.add (j * 8 + j')) = some u := hc
  have hy : l.getD ((j : Int)).toNat z37 = y := by rw [Int.toNat_natCast, List.getD_eq_getElem?_getD, h1]; rfl
  rw [hy] at hK
  obtain rfl := k37_open hK
  exact hc i u h2
def OwnE (base : Nat) (v : Value) (l : List Edi) (w : World) : Prop := w.ownsRow base 37 8 v l.length (eflat l)
theorem cloneE_any (A : Option Addr) (c : Nat) (l : List Edi) (w : World) (hr : Kd.C k37 w A l.length l) (hc : l.length ≤ c) (hl : l.length * 56 ≤ 140737488355328) :
    Calls Try.prog 30 #[.slice A l.length c] w fun e w' => ∃ v, e = .returned v ∧ OwnE w.heap.size v l w' ∧ Below w.heap.size w w' := by
  unfold OwnE
  obtain ⟨i0, hi, hz0, hz1, hz2⟩ := info_parts infoE
  have q23 : ∀ (w : World) (a : Option Addr) (n c n' c' : Nat), (binOp .eql 44 (.slice a n c) (.slice none n' c')).run Try.prog w = .ok (.bool a.isNone) w := fun w a n c n' c' => Lib.run_eql_slice_nil w _ _ a n c n' c' Try.underlying44
  cases A with
  | none =>
    have hl0 : l = [] := by
      rcases Nat.eq_zero_or_pos l.length with h | h
      · exact List.eq_nil_of_length_eq_zero h
      · obtain ⟨ad, e, _⟩ := hr.2.2 h
        cases e
    subst hl0
    clear hr
    go_enter Try.func30, Try.ntmps30
    go_wp2
    go_ret
    exact ⟨_, rfl, ⟨rfl, .inl ⟨rfl, rfl⟩⟩, Below.refl _ _⟩
  | some ad =>
    have HR := Aside0.mk hr
    have HL := Aside0.mk (eflat_len l)
    clear hr
    go_enter Try.func30, Try.ntmps30
    go_wp2_with (first | (at_builtin; refine wpList_append_own _ rfl (.tmp 5) (.tmp 6) 44 rfl w.heap.size 37 i0 (.agg #[(.int .i64 0), (.int .i64 0), (.int .i64 0), (.int .i64 0), (.int .i64 0), (.int .u32 0), (.int .u32 0), (.int .i64 0)]) 8 56 Try.underlying44 hi hz0 hz1 hz2 rfl (by decide) (.slice (some ⟨w.heap.size, 0, none⟩) 0 0) 0 [] rfl ⟨rfl, .inr ⟨w.heap.size, 0, #[], rfl, Nat.le_refl _, blk_new _ _, Nat.le_refl _, by decide, rfl, rfl⟩⟩ ad l.length c (eflat l) rfl HL.out (reads_edits (Kd.C_alloc HR.out _) ad rfl) (eflat_one l) (by unfold maxLen; omega) (by omega) (by simp) ?_; intro v2 w2 ho3 hg3 _))
    have hB2 := ((Below.refl w.heap.size w).alloc (Nat.le_refl _) (.cells #[] 37)).grown hg3 (by simp) (fun q hq => by simp [Value.ownBlock] at hq; omega)
    rw [Nat.zero_add, List.nil_append] at ho3
    clear hg3
    go_wp2
    go_ret
    exact ⟨_, rfl, ho3, hB2⟩
theorem clip_any (A : Option Addr) (c n : Nat) (w : World) (hc : n ≤ c) (hc63 : (n : Int) ≤ 9223372036854775807) :
    Calls Try.prog 34 #[.slice A n c] w fun e w' => e = .returned (.slice A n n) ∧ w = w' := by
  have h2 : (n : Int) ≤ (c : Int) := by omega
  go_enter Try.func34, Try.ntmps34
  go_wp2_with fail
  go_ret
  exact ⟨rfl, rfl⟩
theorem C_ownE {w : World} {B : Nat} {v : Value} {l : List Edi} (h : OwnE B v l w) : ∃ A c, v = .slice A l.length c ∧ l.length ≤ c ∧ Kd.C k37 w A l.length l := by
  obtain ⟨h1, ⟨e, h2⟩ | ⟨g, cap, cur, e, h2, h3, h4, h5, h6, h7⟩⟩ := h
  · have := eflat_len l
    rw [h2] at this
    have hl : l = [] := List.eq_nil_of_length_eq_zero (by simp at this; omega)
    subst hl
    exact ⟨none, 0, e, Nat.le_refl _, ⟨rfl, by simp, fun h => absurd h (by simp)⟩⟩
  · refine ⟨_, cap, e, h4, rfl, by unfold maxLen at h5; omega, fun _ => ⟨_, rfl, fun j p hj => ⟨ecells p, rfl, k37_mk _ _, fun i u hu => ?_⟩⟩⟩
    rw [add_plain, blk_cell h3]
    have h8 := eflat_at l j p hj i u hu
    rw [← h7] at h8
    have hk := (List.getElem?_eq_some_iff.1 h8).1
    rw [List.length_take] at hk
    rw [List.getElem?_take_of_lt (by omega), Array.getElem?_toList] at h8
    exact h8
set_option maxHeartbeats 4000000 in
theorem staged_any (hb g : Nat) (M : List (Int × Ses)) (n : Int) (w : World) (h : BookAt w hb g M) (hn : i64 n) (hm : ∀ s, lookM M n = some s → s.2.length ≤ 1000) :
    Calls Try.prog 11 #[.pointer (some ⟨hb, 0, none⟩), .int .i64 n] w fun e w' => ∃ A c, e = .returned (.tuple #[.slice A ((lookM M n).getD (⟨#[]⟩, [])).2.length c, .int .i64 (errF (lookM M n))]) ∧ ((lookM M n).getD (⟨#[]⟩, [])).2.length ≤ c ∧ Kd.C k37 w' A ((lookM M n).getD (⟨#[]⟩, [])).2.length ((lookM M n).getD (⟨#[]⟩, [])).2 ∧ Below w.heap.size w w' := by
  have HF := Aside0.mk (find_any hb g M n w h hn)
  have hu := Try.underlying66
  have HM := Aside0.mk hm
  clear h hm
  generalize errF (lookM M n) = er at *
  generalize lookM M n = o at *
  go_enter Try.func11, Try.ntmps11
  go_wp2_with fail
  refine HF.out.mono ?_
  rintro e w2 ⟨v, rfl, hf, hb2⟩
  obtain ⟨br, A, l, c, rfl, h1, h2, h3⟩ := hf.open
  have H3 := Aside0.mk h3
  have hb3 := hb2.alloc hb2.size (.cells #[.string br, .slice A l.length c] 66)
  have HB3 := Aside0.mk hb3
  have hlen : l.length ≤ 1000 := by
    cases o with
    | none => cases h3; simp
    | some s => cases h3; exact HM.out _ rfl
  have HCL := Aside0.mk (cloneE_any A c l _ (Kd.C_below h2 ((Below.refl _ w2).alloc (Nat.le_refl _) (.cells #[.string br, .slice A l.length c] 66))) h1 (by omega))
  clear hf h1 h2 h3 hb2 hb3 hlen
  go_wp2_with fail
  refine HCL.out.mono ?_
  rintro e w4 ⟨v, rfl, ho, hb4⟩
  have HB4 := Aside0.mk (HB3.out.trans (hb4.mono HB3.out.size))
  have HO := Aside0.mk (C_ownE ho)
  clear ho hb4 HCL
  go_wp2_with fail
  go_ret2
  obtain ⟨A', c', e, h5, h6⟩ := HO.out
  have e3 := H3.out
  cases o with
  | none => cases e3; subst e; exact ⟨A', c', rfl, h5, h6, HB4.out⟩
  | some s => cases e3; subst e; exact ⟨A', c', rfl, h5, h6, HB4.out⟩
end Go.Proofs.Ytnbojemjaipnlaa.H
