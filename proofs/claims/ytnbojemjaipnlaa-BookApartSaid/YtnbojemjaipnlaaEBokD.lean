/- Bok9, BokA, BokD. -/
import Derived.Test.YtnbojemjaipnlaaEBok8
import Derived.Deep.LoopGhost
/-! ### Bok9 -/
namespace Go.Proofs.Ytnbojemjaipnlaa.H
open Go.RowKit Go.Proofs.Ytnbojemjaipnlaa.P Go.Proofs.YtnbojemjaipnlaaW.PrintWords Go.Proofs.YtnbojemjaipnlaaW.PrintLast Go.Proofs.YtnbojemjaipnlaaW.PrintMore
set_option linter.unusedVariables false
set_option linter.unusedSimpArgs false
set_option maxRecDepth 20000
theorem BookAt.look {w : World} {hb g : Nat} {M : List (Int × Ses)} (h : BookAt w hb g M) {n : Int} (hn : i64 n) :
    ∃ v, (Instr.lookup MapT (.map (some g)) (.int .i64 n) true).run Try.prog w = .ok (.tuple #[v, .bool (lookM M n).isSome]) w ∧ FoundAt w (lookM M n) v := by
  obtain ⟨_, R, hR, hM⟩ := h
  have hlk := hR.look hn
  rcases hM.look n with ⟨e1, e2⟩ | ⟨v, s, e1, e2, h3⟩
  · rw [e1] at hlk
    rw [e2]
    exact ⟨_, hlk, .inl ⟨rfl, rfl⟩⟩
  · rw [e1] at hlk
    rw [e2]
    exact ⟨_, hlk, .inr ⟨s, rfl, h3⟩⟩
def freeM (M : List (Int × Ses)) : Nat → Nat → Option Int
  | 0, _ => none
  | k + 1, j => if (lookM M (j : Int)).isSome = true then freeM M k (j + 1) else some (j : Int)
def openM (M : List (Int × Ses)) (br : ByteArray) : List (Int × Ses) × Int × Int := match freeM M 4 1 with | none => (M, 0, 182) | some n => (putM M n (br, []), n, 0)
set_option maxHeartbeats 4000000 in
theorem open_any (hb g : Nat) (M : List (Int × Ses)) (br : ByteArray) (w : World) (h : BookAt w hb g M) (hm : M.length ≤ 1000) :
    Calls Try.prog 18 #[.pointer (some ⟨hb, 0, none⟩), .string br] w (Does w hb g (openM M br).1 (.tuple #[.int .i64 (openM M br).2.1, .int .i64 (openM M br).2.2])) := by
  have H := Aside0.mk h
  have HM := Aside0.mk hm
  have hu := Try.underlying66
  have hu2 := Try.underlying64
  clear h hm
  go_enter Try.func18, Try.ntmps18
  go_wp2_with fail
  go_loopw [6] (fun s6 wr => ∃ j : Nat, s6 = .int .i64 j ∧ 1 ≤ j ∧ j ≤ 5 ∧ Aside0 (freeM M (5 - j) j = freeM M 4 1) ∧ Aside0 (Below w.heap.size w wr)) (fun s6 _ => 5 - (intOf s6).toNat)
  case atStart => exact ⟨1, rfl, Nat.le_refl _, by omega, ⟨rfl⟩, ⟨Below.refl _ w⟩⟩
  case round =>
    obtain ⟨j, rfl, hj1, hj5, HF, HB⟩ := hrel
    by_cases hlt : j ≤ 4
    · have hltz : (j : Int) ≤ 4 := by omega
      have hw0 : wrap64 ((j : Int) + 1) = ((j + 1 : Nat) : Int) := by unfold wrap64; omega
      have HW0 := Aside0.mk hw0
      clear hw0
      have HN := Aside0.mk (show i64 (j : Int) from by unfold i64; omega)
      have hbr := H.out.below HB.out
      have hc0 := hbr.cell
      obtain ⟨v, hlk, hf⟩ := hbr.look HN.out
      obtain ⟨br2, A, l, c, rfl, _, _, _⟩ := hf.open
      have hb3 := HB.out.alloc HB.out.size (.cells #[.string br2, .slice A l.length c] 66)
      have HB3 := Aside0.mk hb3
      cases hs : (lookM M (j : Int)).isSome with
      | true =>
        rw [hs] at hlk
        have HG := Aside0.mk (show freeM M (5 - (j + 1)) (j + 1) = freeM M 4 1 from by
          rw [← HF.out, show 5 - j = (5 - (j + 1)) + 1 by omega, freeM, if_pos hs])
        clear hbr hf hb3 hs
        go_wp2_with fail
        go_roundw
        case rel => exact ⟨j + 1, by first | rfl | rw [HW0.out] | go_num, by omega, by omega, HG, HB3⟩
        case measure => (try rw [HW0.out]); simp only [intOf]; omega
      | false =>
        rw [hs] at hlk
        have HG := Aside0.mk (show openM M br = (putM M (j : Int) (br, []), (j : Int), 0) from by
          unfold openM
          rw [← HF.out, show 5 - j = (4 - j) + 1 by omega, freeM, if_neg (by rw [hs]; simp)])
        have h3 := H.out.below hb3
        have hc3 := h3.cell
        obtain ⟨w4, hst, hbk, hbut⟩ := h3.store HN.out HM.out (ses_nil _ br)
        have HK := Aside0.mk hbk
        have HU := Aside0.mk ((ButS.of hb3).trans hbut)
        clear hbr hf hb3 hs h3 hbk hbut
        go_wp2_with fail
        go_ret2
        rw [HG.out]
        exact ⟨rfl, HK.out, HU.out⟩
    · have hltz : ¬ (j : Int) ≤ 4 := by omega
      have HG := Aside0.mk (show openM M br = (M, 0, 182) from by
        unfold openM
        rw [← HF.out, show 5 - j = 0 by omega, freeM])
      go_wp2_with fail
      go_ret2
      rw [HG.out]
      exact ⟨rfl, H.out.below HB.out, ButS.of HB.out⟩
end Go.Proofs.Ytnbojemjaipnlaa.H
/-! ### BokA -/
namespace Go.Proofs.Ytnbojemjaipnlaa.H
open Go.RowKit Go.Proofs.Ytnbojemjaipnlaa.P Go.Proofs.YtnbojemjaipnlaaW.PrintWords Go.Proofs.YtnbojemjaipnlaaW.PrintLast Go.Proofs.YtnbojemjaipnlaaW.PrintMore
set_option linter.unusedVariables false
set_option linter.unusedSimpArgs false
set_option maxRecDepth 20000
abbrev sx : ByteArray := ⟨#[120]⟩
abbrev sy : ByteArray := ⟨#[121]⟩
abbrev sz : ByteArray := ⟨#[122]⟩
def edD : Edi := ⟨1, ⟨0, 0, 0, 0, ⟨0, 0⟩, 0⟩⟩
def M1 : List (Int × Ses) := [(1, (sx, []))]
def M2 : List (Int × Ses) := [(1, (sx, [])), (2, (sy, []))]
def M3 : List (Int × Ses) := [(1, (sx, [])), (2, (sy, [edD]))]
def M4 : List (Int × Ses) := [(1, (sz, [])), (2, (sy, [edD]))]
theorem open1 : openM [] sx = (M1, 1, 0) := rfl
theorem open2 : openM M1 sy = (M2, 2, 0) := rfl
theorem stage1 : stageM M2 2 edD = (M3, 0) := rfl
theorem switch1 : switchM M3 2 sz = (M3, 162) := rfl
theorem switch2 : switchM M3 1 sz = (M4, 0) := rfl
set_option maxHeartbeats 4000000 in
theorem alive_any (w : World) : Calls Try.prog 13 #[] w fun e w' => e = .returned (.bool true) ∧ Below w.heap.size w w' := by
  have i1 : i64 1 := by unfold i64; omega
  have i2 : i64 2 := by unfold i64; omega
  go_enter Try.func13, Try.ntmps13
  go_wp2_with fail
  refine (new_any w).mono ?_
  rintro e w1 ⟨hb, g, rfl, hk, hg, hh, hb1⟩
  have HG := Aside0.mk hg
  have C0 := open_any hb g [] sx _ hk (by decide)
  rw [open1] at C0
  have C0 := Aside0.mk C0
  have HB1 := Aside0.mk hb1
  clear hk hb1 hg hh
  go_wp2_with fail
  refine C0.out.mono ?_
  rintro e w2 ⟨rfl, hk, hu⟩
  have hb2 := hu.below HB1.out (fun i hi => by rw [hi]; exact HG.out) (Nat.le_refl _)
  clear hu
  have C1 := open_any hb g M1 sy _ hk (by decide)
  rw [open2] at C1
  have C1 := Aside0.mk C1
  have HB2 := Aside0.mk hb2
  clear hk hb2
  go_wp2_with fail
  refine C1.out.mono ?_
  rintro e w3 ⟨rfl, hk, hu⟩
  have hb3 := hu.below HB2.out (fun i hi => by rw [hi]; exact HG.out) (Nat.le_refl _)
  clear hu
  have C2 := stage_any hb g M2 2 edD _ hk i2 (by decide)
  rw [stage1] at C2
  have C2 := Aside0.mk C2
  have HB3 := Aside0.mk hb3
  clear hk hb3
  go_wp2_with fail
  refine C2.out.mono ?_
  rintro e w4 ⟨rfl, hk, hu⟩
  have hb4 := hu.below HB3.out (fun i hi => by rw [hi]; exact HG.out) (Nat.le_refl _)
  clear hu
  have C3 := switch_any hb g M3 2 sz _ hk i2 (by decide)
  rw [switch1] at C3
  have C3 := Aside0.mk C3
  have HB4 := Aside0.mk hb4
  clear hk hb4
  go_wp2_with fail
  refine C3.out.mono ?_
  rintro e w5 ⟨rfl, hk, hu⟩
  have hb5 := hu.below HB4.out (fun i hi => by rw [hi]; exact HG.out) (Nat.le_refl _)
  clear hu
  have C4 := switch_any hb g M3 1 sz _ hk i1 (by decide)
  rw [switch2] at C4
  have C4 := Aside0.mk C4
  have HB5 := Aside0.mk hb5
  clear hk hb5
  go_wp2_with fail
  refine C4.out.mono ?_
  rintro e w6 ⟨rfl, hk, hu⟩
  have hb6 := hu.below HB5.out (fun i hi => by rw [hi]; exact HG.out) (Nat.le_refl _)
  clear hu
  have CO := on_any hb g M4 1 _ hk i1
  have CO := Aside0.mk (show Calls Try.prog 9 #[.pointer (some ⟨hb, 0, none⟩), .int .i64 1] w6 (fun e w' => e = .returned (.tuple #[.string ⟨#[122]⟩, .int .i64 0]) ∧ Below w6.heap.size w6 w') from CO)
  have HK := Aside0.mk hk
  have HB6 := Aside0.mk hb6
  clear hk hb6 i1
  go_wp2_with fail
  refine CO.out.mono ?_
  rintro e w7 ⟨rfl, hb7⟩
  have HK7 := Aside0.mk (HK.out.below hb7)
  have HB7 := Aside0.mk (HB6.out.trans (hb7.mono HB6.out.size))
  clear hb7
  have CT := staged_any hb g M4 2 _ HK7.out i2 (fun s hs => by cases hs; decide)
  have CT := Aside0.mk (show Calls Try.prog 11 #[.pointer (some ⟨hb, 0, none⟩), .int .i64 2] w7 (fun e w' => ∃ A c, e = .returned (.tuple #[.slice A 1 c, .int .i64 0]) ∧ _ ∧ _ ∧ Below w7.heap.size w7 w') from CT)
  clear i2
  go_wp2_with fail
  refine CT.out.mono ?_
  rintro e w8 ⟨A, c, rfl, _, _, hb8⟩
  have HK8 := Aside0.mk (HK7.out.below hb8)
  have HB8 := Aside0.mk (HB7.out.trans (hb8.mono HB7.out.size))
  clear hb8
  have CS := sessions_any hb g M4 _ HK8.out (by decide)
  have CS := Aside0.mk (show Calls Try.prog 17 #[.pointer (some ⟨hb, 0, none⟩)] w8 (fun e w' => ∃ A c, e = .returned (.slice A 2 c) ∧ _ ∧ _ ∧ Below w8.heap.size w8 w') from CS)
  go_wp2_with fail
  refine CS.out.mono ?_
  rintro e w9 ⟨A2, c2, rfl, _, _, hb9⟩
  have HB9 := Aside0.mk (HB8.out.trans (hb9.mono HB8.out.size))
  clear hb9
  go_wp2_with fail
  go_ret
  exact ⟨rfl, HB9.out⟩
end Go.Proofs.Ytnbojemjaipnlaa.H
/-! ### BokD -/
namespace Go.Proofs.Ytnbojemjaipnlaa.H
open Go.RowKit Go.Proofs.Ytnbojemjaipnlaa.P Go.Proofs.YtnbojemjaipnlaaW.PrintWords Go.Proofs.YtnbojemjaipnlaaW.PrintLast Go.Proofs.YtnbojemjaipnlaaW.PrintMore
set_option linter.unusedVariables false
set_option linter.unusedSimpArgs false
set_option maxRecDepth 20000
structure RD where
  n : Int
  br : ByteArray
  A : Option Addr
  len : Nat
  c : Nat
def dcells (r : RD) : List Value := [.int .i64 r.n, .string r.br, .slice r.A r.len r.c]
def dflat (R : List RD) : List Value := R.flatMap dcells
theorem dflat_len : ∀ R : List RD, (dflat R).length = R.length * 3
  | [] => rfl
  | x :: t => by
    have := dflat_len t
    show (dcells x ++ dflat t).length = _
    rw [List.length_append, this, List.length_cons]
    show 3 + _ = _
    omega
theorem dflat_append (a b : List RD) : dflat (a ++ b) = dflat a ++ dflat b := by unfold dflat; rw [List.flatMap_append]
theorem dflat_at : ∀ (R : List RD) (j : Nat) (y : RD), R[j]? = some y → ∀ i u, (dcells y)[i]? = some u → (dflat R)[j * 3 + i]? = some u
  | [], j, y, h => by simp at h
  | x :: t, 0, y, h => fun i u hu => by
    simp at h
    subst h
    have hi := (List.getElem?_eq_some_iff.1 hu).1
    show (dcells x ++ dflat t)[0 * 3 + i]? = _
    rw [show 0 * 3 + i = i by omega, List.getElem?_append_left hi]
    exact hu
  | x :: t, j + 1, y, h => fun i u hu => by
    have := dflat_at t j y (by simpa using h) i u hu
    show (dcells x ++ dflat t)[(j + 1) * 3 + i]? = _
    rw [show (j + 1) * 3 + i = 3 + (j * 3 + i) by omega, List.getElem?_append_right (by show 3 ≤ _; omega)]
    rw [show 3 + (j * 3 + i) - (dcells x).length = j * 3 + i by show 3 + _ - 3 = _; omega]
    exact this
theorem dcells_one (y : RD) : ∀ u ∈ dcells y, u.oneCell' = true := by
  intro u hu
  simp [dcells] at hu
  rcases hu with rfl | rfl | rfl <;> rfl
theorem dflat_one (R : List RD) : ∀ u ∈ dflat R, u.oneCell' = true := by
  intro u hu
  obtain ⟨y, _, h⟩ := List.mem_flatMap.1 hu
  exact dcells_one y u h
def OwnD (B : Nat) (v : Value) (R : List RD) (w : World) : Prop := w.ownsRow B 54 3 v R.length (dflat R)
theorem ownD_base {w : World} {B B' : Nat} {v : Value} {R : List RD} (h : OwnD B v R w) (hB : B' ≤ B) : OwnD B' v R w := by
  obtain ⟨h1, ⟨e, h2⟩ | ⟨g, cap, cur, e, h2, h3, h4, h5, h6, h7⟩⟩ := h
  · exact ⟨h1, .inl ⟨e, h2⟩⟩
  · exact ⟨h1, .inr ⟨g, cap, cur, e, Nat.le_trans hB h2, h3, h4, h5, h6, h7⟩⟩
theorem ownD_cases {w : World} {B : Nat} {v : Value} {R : List RD} (h : OwnD B v R w) : (v = .slice none 0 0 ∧ R = []) ∨ ∃ g cap cur, v = .slice (some ⟨g, 0, none⟩) R.length cap ∧ B ≤ g ∧ w.heap[g]? = some (.cells cur 54 (0, 0)) ∧ R.length ≤ cap ∧ cap ≤ maxLen ∧ cur.size = cap * 3 ∧ ∀ (k : Nat) (u : Value), (dflat R)[k]? = some u → cur[k]? = some u := by
  obtain ⟨h1, ⟨e, h2⟩ | ⟨g, cap, cur, e, h2, h3, h4, h5, h6, h7⟩⟩ := h
  · left
    refine ⟨e, ?_⟩
    have := dflat_len R
    rw [h2] at this
    exact List.eq_nil_of_length_eq_zero (by simp at this; omega)
  · refine .inr ⟨g, cap, cur, e, h2, h3, h4, h5, h6, fun k u hu => ?_⟩
    rw [← h7] at hu
    have hk := (List.getElem?_eq_some_iff.1 hu).1
    rw [List.length_take] at hk
    rw [List.getElem?_take_of_lt (by omega), Array.getElem?_toList] at hu
    exact hu
theorem ownD_nil (B : Nat) (w : World) : OwnD B (.slice none 0 0) [] w := ⟨rfl, .inl ⟨rfl, rfl⟩⟩
theorem ownD_at {w : World} {B : Nat} {v : Value} {R : List RD} (h : OwnD B v R w) {j : Nat} {y : RD} (hj : R[j]? = some y) : ∃ g cap, v = .slice (some ⟨g, 0, none⟩) R.length cap ∧ R.length ≤ cap ∧ cap ≤ maxLen ∧ w.cell? ⟨g, j * 3, none⟩ = some (.int .i64 y.n) ∧ w.cell? ⟨g, j * 3 + 1, none⟩ = some (.string y.br) ∧ w.cell? ⟨g, j * 3 + 2, none⟩ = some (.slice y.A y.len y.c) := by
  rcases ownD_cases h with ⟨_, rfl⟩ | ⟨g, cap, cur, e, h2, h3, h4, h5, h6, h7⟩
  · simp at hj
  · refine ⟨g, cap, e, h4, h5, ?_, ?_, ?_⟩ <;> rw [blk_cell h3]
    · exact h7 _ _ (dflat_at R j y hj 0 _ rfl)
    · exact h7 _ _ (dflat_at R j y hj 1 _ rfl)
    · exact h7 _ _ (dflat_at R j y hj 2 _ rfl)
theorem ownD_slice {w : World} {B : Nat} {v : Value} {R : List RD} (h : OwnD B v R w) : ∃ A cap, v = .slice A R.length cap ∧ R.length ≤ cap ∧ cap ≤ maxLen := by
  rcases ownD_cases h with ⟨e, rfl⟩ | ⟨g, cap, cur, e, h2, h3, h4, h5, _⟩
  · exact ⟨none, 0, e, Nat.le_refl _, Nat.zero_le _⟩
  · exact ⟨_, cap, e, h4, h5⟩
def RDat (w : World) (r : RD) (p : Int × Ses) : Prop := r.n = p.1 ∧ r.br = p.2.1 ∧ r.len = p.2.2.length ∧ r.len ≤ r.c ∧ Kd.C k37 w r.A r.len p.2.2
theorem RDat.but {S : Nat → Prop} {w w' : World} {r : RD} {p : Int × Ses} (h : RDat w r p) (hb : ButS S w w') (hS : ∀ k, S k → NoInt w k) : RDat w' r p := by
  obtain ⟨h1, h2, h3, h4, h5⟩ := h
  refine ⟨h1, h2, h3, h4, ?_⟩
  rw [h3] at h5 ⊢
  exact C_but h5 hb hS
def DocAt (w : World) (mb : Nat) (M : List (Int × Ses)) : Prop := ∃ v R, w.heap[mb]? = some (.cells #[v] 28 (0, 0)) ∧ OwnD 0 v R w ∧ Both (RDat w) R M
theorem Both.get {α β : Type} {r : α → β → Prop} : ∀ {l : List α} {m : List β}, Both r l m → ∀ {j : Nat} {x : α}, l[j]? = some x → ∃ y, m[j]? = some y ∧ r x y
  | _, _, .nil, j, x, h => by simp at h
  | _, _, .cons h1 h2, 0, x, h => by
    simp at h
    subst h
    exact ⟨_, rfl, h1⟩
  | _, _, .cons h1 h2, j + 1, x, h => by
    obtain ⟨y, e, k⟩ := h2.get (j := j) (x := x) (by simpa using h)
    exact ⟨y, by simpa using e, k⟩
def ixD : List Int → Int → Nat → Int
  | [], _, _ => -1
  | a :: t, n, j => if a = n then (j : Int) else ixD t n (j + 1)
def ixM {α : Type} (M : List (Int × α)) (n : Int) : Int := ixD (M.map (·.1)) n 0
theorem ixM_spec {α : Type} (M : List (Int × α)) (n : Int) : (ixM M n = -1 ∧ lookM M n = none) ∨ ∃ (i : Nat) (s : α), ixM M n = (i : Int) ∧ M[i]? = some (n, s) ∧ lookM M n = some s := by
  unfold ixM
  have hgen : ∀ (M : List (Int × α)) (j : Nat), (ixD (M.map (·.1)) n j = -1 ∧ lookM M n = none) ∨ ∃ (i : Nat) (s : α), ixD (M.map (·.1)) n j = ((j + i : Nat) : Int) ∧ M[i]? = some (n, s) ∧ lookM M n = some s := by
    intro M
    induction M with
    | nil => exact fun j => .inl ⟨rfl, rfl⟩
    | cons p M ih =>
      intro j
      obtain ⟨a, s⟩ := p
      rw [List.map_cons, ixD, lookM_cons]
      by_cases c : a = n
      · rw [if_pos c, if_pos c]
        exact .inr ⟨0, s, rfl, by simp [c], rfl⟩
      · rw [if_neg c, if_neg c]
        rcases ih (j + 1) with ⟨e, h⟩ | ⟨i, s', e, h, h2⟩
        · exact .inl ⟨e, h⟩
        · exact .inr ⟨i + 1, s', by rw [e]; congr 1; omega, by simpa using h, h2⟩
  rcases hgen M 0 with h | ⟨i, s, e, h⟩
  · exact .inl h
  · exact .inr ⟨i, s, by rw [e, Nat.zero_add], h⟩
theorem Both.dkeys {w : World} : ∀ {R : List RD} {M : List (Int × Ses)}, Both (RDat w) R M → R.map (·.n) = M.map (·.1)
  | _, _, .nil => rfl
  | _, _, .cons h1 h2 => by rw [List.map_cons, List.map_cons, h2.dkeys, h1.1]
set_option maxHeartbeats 4000000 in
theorem findD_raw (mb : Nat) (v : Value) (R : List RD) (n : Int) (w : World) (hblk : w.heap[mb]? = some (.cells #[v] 28 (0, 0))) (ho : OwnD 0 v R w) (hm : R.length ≤ 1000) :
    Calls Try.prog 29 #[.pointer (some ⟨mb, 0, none⟩), .int .i64 n] w fun e w' => e = .returned (.int .i64 (ixD (R.map (·.n)) n 0)) ∧ w = w' := by
  have hc0 : w.cell? ⟨mb, 0, none⟩ = some v := blk_cell hblk 0
  obtain ⟨A, cap, rfl, hcap, hmx⟩ := ownD_slice ho
  have HO := Aside0.mk ho
  have HM := Aside0.mk hm
  have hu := Try.underlying28
  have hu2 := Try.underlying54
  clear hblk ho hm
  go_enter Try.func29, Try.ntmps29
  go_wp2_with fail
  go_loopw [5] (fun s5 wr => ∃ j : Nat, s5 = .int .i64 j ∧ j ≤ R.length ∧ Aside0 (w = wr) ∧ Aside0 (ixD ((R.drop j).map (·.n)) n j = ixD (R.map (·.n)) n 0)) (fun s5 _ => R.length - (intOf s5).toNat)
  case atStart => exact ⟨0, rfl, Nat.zero_le _, ⟨rfl⟩, ⟨rfl⟩⟩
  case round =>
    obtain ⟨j, rfl, hj, HWW, HI⟩ := hrel
    obtain rfl := HWW.out
    clear HWW
    by_cases hlt : j < R.length
    · have hltz : (j : Int) < (R.length : Int) := by omega
      have hy := List.getElem?_eq_getElem hlt
      generalize R[j] = y at hy
      obtain ⟨g, cap2, e, h1, h2, x0, x1, x2⟩ := ownD_at HO.out hy
      simp only [Value.slice.injEq] at e
      obtain ⟨rfl, _, rfl⟩ := e
      have hw0 : wrap64 ((j : Int) + 1) = ((j + 1 : Nat) : Int) := by have := HM.out; unfold wrap64; omega
      have HW := Aside0.mk hw0
      have HD := Aside0.mk (show R.drop j = y :: R.drop (j + 1) from by
        have := List.drop_eq_getElem_cons hlt
        rw [List.getElem?_eq_getElem hlt] at hy
        cases hy
        exact this)
      clear hw0 hy h1 h2
      by_cases hq : y.n = n
      · have hb : (y.n == n) = true := by simpa using hq
        have HR := Aside0.mk (show ixD (R.map (·.n)) n 0 = (j : Int) from by rw [← HI.out, HD.out, List.map_cons, ixD, if_pos hq])
        clear hq
        go_wp2_with fail
        go_ret
        exact ⟨by rw [HR.out]; rfl, by first | rfl | trivial⟩
      · have hb : (y.n == n) = false := by simpa using hq
        have HR := Aside0.mk (show ixD ((R.drop (j + 1)).map (·.n)) n (j + 1) = ixD (R.map (·.n)) n 0 from by rw [← HI.out, HD.out, List.map_cons, ixD, if_neg hq])
        clear hq
        go_wp2_with fail
        go_roundw
        case rel => exact ⟨j + 1, by first | rfl | rw [HW.out] | go_num, by omega, by first | exact ⟨rfl⟩ | exact ⟨trivial⟩, HR⟩
        case measure => (try rw [HW.out]); simp only [intOf]; omega
    · have hltz : ¬ (j : Int) < (R.length : Int) := by omega
      have HR := Aside0.mk (show ixD (R.map (·.n)) n 0 = -1 from by rw [← HI.out, List.drop_eq_nil_of_le (by omega)]; rfl)
      go_wp2_with fail
      go_ret
      exact ⟨by rw [HR.out]; rfl, by first | rfl | trivial⟩
theorem findD_any (mb : Nat) (M : List (Int × Ses)) (n : Int) (w : World) (h : DocAt w mb M) (hm : M.length ≤ 1000) :
    Calls Try.prog 29 #[.pointer (some ⟨mb, 0, none⟩), .int .i64 n] w fun e w' => e = .returned (.int .i64 (ixM M n)) ∧ w = w' := by
  obtain ⟨v, R, h1, h2, h3⟩ := h
  have hl := h3.len
  have := findD_raw mb v R n w h1 h2 (by omega)
  rw [h3.dkeys] at this
  exact this
theorem DocAt.row {w : World} {mb : Nat} {M : List (Int × Ses)} (h : DocAt w mb M) {i : Nat} {n : Int} {s : Ses} (hi : M[i]? = some (n, s)) : ∃ g cap A c, w.cell? ⟨mb, 0, none⟩ = some (.slice (some ⟨g, 0, none⟩) M.length cap) ∧ M.length ≤ cap ∧ i < M.length ∧ w.cell? ⟨g, i * 3, none⟩ = some (.int .i64 n) ∧ w.cell? ⟨g, i * 3 + 1, none⟩ = some (.string s.1) ∧ w.cell? ⟨g, i * 3 + 2, none⟩ = some (.slice A s.2.length c) ∧ s.2.length ≤ c ∧ Kd.C k37 w A s.2.length s.2 := by
  obtain ⟨v, R, h1, h2, h3⟩ := h
  have hl := h3.len
  have hlt := (List.getElem?_eq_some_iff.1 hi).1
  have hy := List.getElem?_eq_getElem (l := R) (i := i) (by omega)
  obtain ⟨p, hp, e1, e2, e3, e4, e5⟩ := h3.get hy
  rw [hi] at hp
  cases hp
  obtain ⟨g, cap, e, k1, k2, x0, x1, x2⟩ := ownD_at h2 hy
  generalize R[i] = y at *
  subst e
  refine ⟨g, cap, y.A, y.c, by rw [blk_cell h1]; show some (Value.slice _ R.length cap) = _; rw [hl], by omega, hlt, ?_, ?_, ?_, by rw [← e3]; exact e4, ?_⟩
  · rw [x0, e1]
  · rw [x1, e2]
  · rw [x2, e3]
  · rw [e3] at e5; exact e5
end Go.Proofs.Ytnbojemjaipnlaa.H
