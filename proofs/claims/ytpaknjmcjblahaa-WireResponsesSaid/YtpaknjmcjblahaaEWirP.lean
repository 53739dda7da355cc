/- WirP. -/
import Derived.Test.YtpaknjmcjblahaaEWir9
import Derived.Test.YtpaknjmcjblahaaENumW1
import Derived.Test.YtpaknjmcjblahaaEWirQ
namespace Go.Proofs.Ytpaknjmcjblahaa.H
open Go.RowKit Go.Proofs.Ytpaknjmcjblahaa.P Go.Proofs.YtpaknjmcjblahaaW.PrintWords Go.Proofs.YtpaknjmcjblahaaW.PrintLast Go.Proofs.YtpaknjmcjblahaaW.PrintMore
set_option linter.unusedVariables false
set_option linter.unusedSimpArgs false
set_option maxRecDepth 20000
def putN (n : Int) : List Int := put n.toNat
def putT (s : ByteArray) : List Int := put s.size ++ bytesOf s
def putL (l : List Int) : List Int := (l.map putN).flatten
def putRu (r : Ru) : List Int := putL (numsR r)
def inB (most n : Int) : Prop := 0 ≤ n ∧ n ≤ most
theorem numM_put {most n : Int} (rest : List Int) (b : Bool) (h : inB most n) (h2 : most ≤ 4294967295) : numM most ⟨putN n ++ rest, b⟩ = (n, ⟨rest, b⟩) := by
  obtain ⟨h0, h1⟩ := h
  have hn := nextS_put n.toNat (by omega) rest
  unfold numM putN
  rw [hn]
  simp only [Int.toNat_of_nonneg h0]
  rw [if_pos ⟨put_pos _, h1⟩, List.drop_left]
theorem take_drop_eq {l p : List Int} {k : Nat} (h : l.take k = p) : l = p ++ l.drop k := by rw [← h, List.take_append_drop]
theorem numM_back {most : Int} {m : Mc} (hb : bytes m.rest) (h : (numM most m).2.bad = false) : m.bad = false ∧ inB most (numM most m).1 ∧ m.rest = putN (numM most m).1 ++ (numM most m).2.rest := by
  unfold numM at h ⊢
  by_cases c : (nextS m.rest).2 ≠ 0 ∧ (nextS m.rest).1 ≤ most
  · rw [if_pos c] at h ⊢
    have hp := put_nextS m.rest hb c.1
    exact ⟨h, ⟨hp.2.1, c.2⟩, take_drop_eq hp.1⟩
  · rw [if_neg c] at h; cases h
theorem textM_put (s : ByteArray) (rest : List Int) (b : Bool) (h : s.size ≤ 40) : textM 40 ⟨putT s ++ rest, b⟩ = (s, ⟨rest, b⟩) := by
  have hn := nextS_put s.size (by omega) (bytesOf s ++ rest)
  unfold textM putT
  rw [List.append_assoc, hn]
  dsimp only
  have e1 : ((put s.size ++ (bytesOf s ++ rest)).take ((put s.size).length + (s.size : Int).toNat)).drop (put s.size).length = bytesOf s := by
    rw [List.drop_take, List.drop_left, Nat.add_sub_cancel_left, Int.toNat_natCast, List.take_append_of_le_length (by rw [bytesOf_len]; exact Nat.le_refl _), List.take_of_length_le (by rw [bytesOf_len]; exact Nat.le_refl _)]
  have e2 : (put s.size ++ (bytesOf s ++ rest)).drop ((put s.size).length + (s.size : Int).toNat) = rest := by
    rw [← List.drop_drop, List.drop_left, Int.toNat_natCast, ← bytesOf_len, List.drop_left]
  rw [if_pos ⟨put_pos _, by omega, by rw [List.length_append, List.length_append, bytesOf_len]; omega⟩, e1, e2, str_bytesOf]
def okW (r : Ru) : Prop := inB wideW r.f0 ∧ inB wideW r.f1 ∧ inB wideW r.f2 ∧ inB wideW r.f3 ∧ inB wideW r.f4.f0 ∧ inB wideW r.f4.f1 ∧ inB wideW r.f5
theorem wideLe : wideW ≤ 4294967295 := by decide
theorem putRu_eq (r : Ru) (rest : List Int) : putRu r ++ rest = putN r.f0 ++ (putN r.f1 ++ (putN r.f2 ++ (putN r.f3 ++ (putN r.f4.f0 ++ (putN r.f4.f1 ++ (putN r.f5 ++ rest)))))) := by
  simp [putRu, putL, numsR, List.append_assoc]
theorem ruleM_put {r : Ru} (rest : List Int) (b : Bool) (h : okW r) : ruleM ⟨putRu r ++ rest, b⟩ = (r, ⟨rest, b⟩) := by
  obtain ⟨h0, h1, h2, h3, h4, h5, h6⟩ := h
  unfold ruleM
  rw [putRu_eq]
  simp only [numM_put _ _ h0 wideLe, numM_put _ _ h1 wideLe, numM_put _ _ h2 wideLe, numM_put _ _ h3 wideLe, numM_put _ _ h4 wideLe, numM_put _ _ h5 wideLe, numM_put _ _ h6 wideLe]
theorem ruleM_back {m : Mc} (hb : bytes m.rest) (h : (ruleM m).2.bad = false) : m.bad = false ∧ okW (ruleM m).1 ∧ m.rest = putRu (ruleM m).1 ++ (ruleM m).2.rest := by
  unfold ruleM at h ⊢
  dsimp only at h ⊢
  rw [putRu_eq]
  dsimp only
  have b1 := numM_bytes wideW m hb
  have b2 := numM_bytes wideW _ b1
  have b3 := numM_bytes wideW _ b2
  have b4 := numM_bytes wideW _ b3
  have b5 := numM_bytes wideW _ b4
  have b6 := numM_bytes wideW _ b5
  obtain ⟨g6, i6, e6⟩ := numM_back b6 h
  obtain ⟨g5, i5, e5⟩ := numM_back b5 g6
  obtain ⟨g4, i4, e4⟩ := numM_back b4 g5
  obtain ⟨g3, i3, e3⟩ := numM_back b3 g4
  obtain ⟨g2, i2, e2⟩ := numM_back b2 g3
  obtain ⟨g1, i1, e1⟩ := numM_back b1 g2
  obtain ⟨g0, i0, e0⟩ := numM_back hb g1
  refine ⟨g0, ⟨i0, i1, i2, i3, i4, i5, i6⟩, ?_⟩
  rw [← e6, ← e5, ← e4, ← e3, ← e2, ← e1, ← e0]
def encL (r : Rq) : List Int := putN r.k ++ (putN r.s ++
  (if partK r.k = 1 then putT r.nm else if partK r.k = 2 then putN r.ek ++ putRu r.ru else
   if partK r.k = 3 then putN r.qk ++ (putN r.qa ++ (putN r.qb ++ (putN r.qw ++ (putN r.qf ++ (putN r.qt ++ putT r.qo))))) else []))
theorem allIn_iff (most : Int) (l : List Int) : allIn most l = true ↔ ∀ x ∈ l, inB most x := by
  unfold allIn outB inB
  rw [Bool.not_eq_true', List.any_eq_false]
  constructor
  · intro h x hx
    have := h x hx
    simp only [Bool.or_eq_true, decide_eq_true_eq] at this
    omega
  · intro h x hx
    have := h x hx
    simp only [Bool.or_eq_true, decide_eq_true_eq]
    omega
theorem emptyS_iff (s : ByteArray) : emptyS s = true ↔ s = ⟨#[]⟩ := by
  unfold emptyS
  constructor
  · intro h
    obtain ⟨⟨d⟩⟩ := s
    simp at h
    rw [h]
  · rintro rfl; simp
structure Form (r : Rq) : Prop where
  k : inB 9 r.k
  s : inB 255 r.s
  nm : r.nm.size ≤ 40
  ek : inB 255 r.ek
  ru : okW r.ru
  qk : inB 255 r.qk
  qa : inB 255 r.qa
  qb : inB 255 r.qb
  qw : inB 255 r.qw
  qo : r.qo.size ≤ 40
  op : ¬ (r.k = 0 ∧ r.s ≠ 0)
  z1 : partK r.k ≠ 1 → r.nm = ⟨#[]⟩
  z2 : partK r.k ≠ 2 → r.ek = 0 ∧ r.ru = zRu
  z3 : partK r.k ≠ 3 → r.qk = 0 ∧ r.qa = 0 ∧ r.qb = 0 ∧ r.qw = 0 ∧ r.qf = 0 ∧ r.qt = 0 ∧ r.qo = ⟨#[]⟩
theorem form_of {r : Rq} (h : rightQ r = true) : Form r := by
  unfold rightQ at h
  simp only [Bool.and_eq_true, Bool.or_eq_true, Bool.not_eq_true', decide_eq_false_iff_not, beq_iff_eq, allIn_iff, emptyS_iff] at h
  obtain ⟨⟨⟨⟨⟨⟨⟨⟨h1, h2⟩, h3⟩, h4⟩, h5⟩, h6⟩, h7⟩, h8⟩, h9⟩ := h
  refine ⟨h1 _ (by simp), h2 _ (by simp), by omega, h2 _ (by simp), ⟨h3 _ (by simp [numsR]), h3 _ (by simp [numsR]), h3 _ (by simp [numsR]), h3 _ (by simp [numsR]), h3 _ (by simp [numsR]), h3 _ (by simp [numsR]), h3 _ (by simp [numsR])⟩, h2 _ (by simp), h2 _ (by simp), h2 _ (by simp), h2 _ (by simp), by omega, ?_, ?_, ?_, ?_⟩
  · rintro ⟨c1, c2⟩
    simp [c1, c2] at h6
  · intro c; rcases h7 with h | h
    · exact absurd h c
    · exact h
  · intro c; rcases h8 with h | h
    · exact absurd h c
    · unfold edZ at h
      simp only [Bool.and_eq_true, beq_iff_eq] at h
      refine ⟨h.1, ?_⟩
      obtain ⟨k, s, nm, ek, ⟨a, b, c, d, ⟨e, f⟩, g⟩, _⟩ := r
      dsimp only at h
      unfold zRu
      obtain ⟨_, rfl, rfl, rfl, rfl, ⟨rfl, rfl⟩, rfl⟩ := h
      rfl
  · intro c; rcases h9 with h | h
    · exact absurd h c
    · unfold quZ at h
      simp only [Bool.and_eq_true, beq_iff_eq, emptyS_iff] at h
      exact ⟨h.1, h.2.1, h.2.2.1, h.2.2.2.1, h.2.2.2.2.1.1, h.2.2.2.2.1.2, h.2.2.2.2.2⟩
theorem decM_enc {r : Rq} (h : rightQ r = true) (hu : inB wideW r.qf ∧ inB wideW r.qt) (tail : List Int) : decM (encL r ++ tail) = (r, ⟨tail, false⟩) := by
  have F := form_of h
  clear h
  obtain ⟨k, s, nm, ek, ru, qk, qa, qb, qw, qf, qt, qo⟩ := r
  obtain ⟨f1, f2, f3, f4, f5, f6, f7, f8, f9, f10, f11, f12, f13, f14⟩ := F
  dsimp only at f1 f2 f3 f4 f5 f6 f7 f8 f9 f10 f11 f12 f13 f14 hu
  unfold decM encL
  dsimp only
  rw [List.append_assoc, List.append_assoc]
  simp only [numM_put _ _ f1 (by decide : (9 : Int) ≤ 4294967295), numM_put _ _ f2 (by decide : (255 : Int) ≤ 4294967295)]
  by_cases c1 : partK k = 1
  · obtain ⟨rfl, rfl⟩ := f13 (by omega)
    obtain ⟨rfl, rfl, rfl, rfl, rfl, rfl, rfl⟩ := f14 (by omega)
    simp only [c1, if_true, textM_put _ _ _ f3]
  · obtain rfl := f12 c1
    rw [if_neg c1, if_neg c1]
    by_cases c2 : partK k = 2
    · obtain ⟨rfl, rfl, rfl, rfl, rfl, rfl, rfl⟩ := f14 (by omega)
      simp only [c2, if_true, List.append_assoc, numM_put _ _ f4 (by decide : (255 : Int) ≤ 4294967295), ruleM_put _ _ f5]
    · obtain ⟨rfl, rfl⟩ := f13 c2
      rw [if_neg c2, if_neg c2]
      by_cases c3 : partK k = 3
      · simp only [c3, if_true, List.append_assoc, numM_put _ _ f6 (by decide : (255 : Int) ≤ 4294967295), numM_put _ _ f7 (by decide : (255 : Int) ≤ 4294967295), numM_put _ _ f8 (by decide : (255 : Int) ≤ 4294967295), numM_put _ _ f9 (by decide : (255 : Int) ≤ 4294967295), numM_put _ _ hu.1 wideLe, numM_put _ _ hu.2 wideLe, textM_put _ _ _ f10]
      · obtain ⟨rfl, rfl, rfl, rfl, rfl, rfl, rfl⟩ := f14 c3
        rw [if_neg c3, if_neg c3, List.nil_append]
def repM {α : Type} (one : Mc → α × Mc) : Nat → Mc → List α × Mc
  | 0, m => ([], m)
  | n + 1, m => if m.bad = true then ([], m) else ((one m).1 :: (repM one n (one m).2).1, (repM one n (one m).2).2)
def listM {α : Type} (one : Mc → α × Mc) (m : Mc) : List α × Mc := repM one (numM 100 m).1.toNat (numM 100 m).2
theorem repM_bytes {α : Type} {one : Mc → α × Mc} (hy : ∀ m : Mc, bytes m.rest → bytes (one m).2.rest) : ∀ (n : Nat) (m : Mc), bytes m.rest → bytes (repM one n m).2.rest
  | 0, m, h => h
  | n + 1, m, h => by
    rw [repM]
    split
    · exact h
    · exact repM_bytes hy n _ (hy m h)
theorem listM_bytes {α : Type} {one : Mc → α × Mc} (hy : ∀ m : Mc, bytes m.rest → bytes (one m).2.rest) (m : Mc) (h : bytes m.rest) : bytes (listM one m).2.rest := repM_bytes hy _ _ (numM_bytes 100 m h)
theorem repM_back {α : Type} {one : Mc → α × Mc} {g : α → List Int} {P : α → Prop} (hy : ∀ m : Mc, bytes m.rest → bytes (one m).2.rest)
    (h : ∀ m : Mc, bytes m.rest → (one m).2.bad = false → m.bad = false ∧ P (one m).1 ∧ m.rest = g (one m).1 ++ (one m).2.rest) : ∀ (n : Nat) (m : Mc), bytes m.rest → (repM one n m).2.bad = false →
      m.bad = false ∧ (repM one n m).1.length = n ∧ (∀ a ∈ (repM one n m).1, P a) ∧ m.rest = ((repM one n m).1.map g).flatten ++ (repM one n m).2.rest
  | 0, m, hb, hn => ⟨hn, rfl, fun a ha => by simp [repM] at ha, by simp [repM]⟩
  | n + 1, m, hb, hn => by
    rw [repM] at hn ⊢
    by_cases c : m.bad = true
    · rw [if_pos c] at hn; rw [c] at hn; cases hn
    · rw [if_neg c] at hn ⊢
      obtain ⟨j1, j2, j3, j4⟩ := repM_back hy h n _ (hy m hb) hn
      obtain ⟨i1, i2, i3⟩ := h m hb j1
      refine ⟨i1, by simp [j2], ?_, ?_⟩
      · intro a ha
        rcases List.mem_cons.1 ha with rfl | ha
        · exact i2
        · exact j3 a ha
      · dsimp only
        rw [List.map_cons, List.flatten_cons, List.append_assoc, ← j4, ← i3]
theorem listM_back {α : Type} {one : Mc → α × Mc} {g : α → List Int} {P : α → Prop} (hy : ∀ m : Mc, bytes m.rest → bytes (one m).2.rest)
    (h : ∀ m : Mc, bytes m.rest → (one m).2.bad = false → m.bad = false ∧ P (one m).1 ∧ m.rest = g (one m).1 ++ (one m).2.rest) (m : Mc) (hb : bytes m.rest) (hn : (listM one m).2.bad = false) :
      m.bad = false ∧ (listM one m).1.length ≤ 100 ∧ (∀ a ∈ (listM one m).1, P a) ∧ m.rest = putN (listM one m).1.length ++ (((listM one m).1.map g).flatten ++ (listM one m).2.rest) := by
  unfold listM at hn ⊢
  obtain ⟨j1, j2, j3, j4⟩ := repM_back hy h _ _ (numM_bytes 100 m hb) hn
  obtain ⟨i1, i2, i3⟩ := numM_back hb j1
  refine ⟨i1, by rw [j2]; have := i2.2; omega, j3, ?_⟩
  rw [← j4, j2, show (((numM 100 m).1.toNat : Nat) : Int) = (numM 100 m).1 from Int.toNat_of_nonneg i2.1]
  exact i3
def b01 (b : Bool) : Int := if b then 1 else 0
def readM (l : List Int) : Rs × Mc :=
  let a := numM 65535 ⟨l, false⟩
  let b := numM wideW a.2
  let c := listM (numM wideW) b.2
  let d := listM ruleM c.2
  let e := numM 1 d.2
  let f := numM 255 e.2
  let g := numM wideW f.2
  let h := listM (numM 255) g.2
  let i := numM 255 h.2
  let j := numM 255 i.2
  let k := numM 255 j.2
  (⟨a.1, b.1, c.1, d.1, e.1 == 1, f.1, g.1, h.1, i.1, j.1, k.1⟩, k.2)
def readOut (l : List Int) : Rs × Int := if (readM l).2.bad = true ∨ 0 < (readM l).2.rest.length then (zRs, 171) else ((readM l).1, 0)
def ansL (r : Rs) : List Int := putN r.e ++ (putN r.n ++ (putN r.ids.length ++ (putL r.ids ++ (putN r.rules.length ++ ((r.rules.map putRu).flatten ++ (putN (b01 r.h) ++ (putN r.fr ++ (putN r.ad ++ (putN r.dv.length ++ (putL r.dv ++ (putN r.ft ++ (putN r.od ++ putN r.op))))))))))))
structure FormS (r : Rs) : Prop where
  e : inB 65535 r.e
  n : inB wideW r.n
  ids : ∀ x ∈ r.ids, inB wideW x
  rules : ∀ x ∈ r.rules, okW x
  fr : inB 255 r.fr
  dv : ∀ x ∈ r.dv, inB 255 x
  ft : inB 255 r.ft
  od : inB 255 r.od
  op : inB 255 r.op
  l1 : r.ids.length ≤ 100
  l2 : r.rules.length ≤ 100
  l3 : r.dv.length ≤ 100
theorem readM_back {l : List Int} (hb : bytes l) (h : (readM l).2.bad = false) : FormS (readM l).1 ∧ inB wideW (readM l).1.ad ∧ l = ansL (readM l).1 ++ (readM l).2.rest := by
  have yW : ∀ m : Mc, bytes m.rest → bytes (numM wideW m).2.rest := fun m h => numM_bytes wideW m h
  have y255 : ∀ m : Mc, bytes m.rest → bytes (numM 255 m).2.rest := fun m h => numM_bytes 255 m h
  have b0 : bytes (Mc.mk l false).rest := hb
  rcases q1 : numM 65535 ⟨l, false⟩ with ⟨n1, m1⟩
  have b1 := numM_bytes 65535 ⟨l, false⟩ b0
  have B1 : m1.bad = false → _ := fun h => numM_back (most := 65535) (m := ⟨l, false⟩) b0 (by rw [q1]; exact h)
  rw [q1] at b1 B1
  simp only [] at b1 B1
  rcases q2 : numM wideW m1 with ⟨n2, m2⟩
  have b2 := numM_bytes wideW m1 b1
  have B2 : m2.bad = false → _ := fun h => numM_back (most := wideW) (m := m1) b1 (by rw [q2]; exact h)
  rw [q2] at b2 B2
  simp only [] at b2 B2
  rcases q3 : listM (numM wideW) m2 with ⟨n3, m3⟩
  have b3 := listM_bytes (one := numM wideW) yW m2 b2
  have B3 : m3.bad = false → _ := fun h => listM_back (one := numM wideW) (g := putN) (P := inB wideW) yW (fun m hb h => numM_back hb h) m2 b2 (by rw [q3]; exact h)
  rw [q3] at b3 B3
  simp only [] at b3 B3
  rcases q4 : listM ruleM m3 with ⟨n4, m4⟩
  have b4 := listM_bytes (one := ruleM) ruleM_bytes m3 b3
  have B4 : m4.bad = false → _ := fun h => listM_back (one := ruleM) (g := putRu) (P := okW) ruleM_bytes (fun m hb h => ruleM_back hb h) m3 b3 (by rw [q4]; exact h)
  rw [q4] at b4 B4
  simp only [] at b4 B4
  rcases q5 : numM 1 m4 with ⟨n5, m5⟩
  have b5 := numM_bytes 1 m4 b4
  have B5 : m5.bad = false → _ := fun h => numM_back (most := 1) (m := m4) b4 (by rw [q5]; exact h)
  rw [q5] at b5 B5
  simp only [] at b5 B5
  rcases q6 : numM 255 m5 with ⟨n6, m6⟩
  have b6 := numM_bytes 255 m5 b5
  have B6 : m6.bad = false → _ := fun h => numM_back (most := 255) (m := m5) b5 (by rw [q6]; exact h)
  rw [q6] at b6 B6
  simp only [] at b6 B6
  rcases q7 : numM wideW m6 with ⟨n7, m7⟩
  have b7 := numM_bytes wideW m6 b6
  have B7 : m7.bad = false → _ := fun h => numM_back (most := wideW) (m := m6) b6 (by rw [q7]; exact h)
  rw [q7] at b7 B7
  simp only [] at b7 B7
  rcases q8 : listM (numM 255) m7 with ⟨n8, m8⟩
  have b8 := listM_bytes (one := numM 255) y255 m7 b7
  have B8 : m8.bad = false → _ := fun h => listM_back (one := numM 255) (g := putN) (P := inB 255) y255 (fun m hb h => numM_back hb h) m7 b7 (by rw [q8]; exact h)
  rw [q8] at b8 B8
  simp only [] at b8 B8
  rcases q9 : numM 255 m8 with ⟨n9, m9⟩
  have b9 := numM_bytes 255 m8 b8
  have B9 : m9.bad = false → _ := fun h => numM_back (most := 255) (m := m8) b8 (by rw [q9]; exact h)
  rw [q9] at b9 B9
  simp only [] at b9 B9
  rcases q10 : numM 255 m9 with ⟨n10, m10⟩
  have b10 := numM_bytes 255 m9 b9
  have B10 : m10.bad = false → _ := fun h => numM_back (most := 255) (m := m9) b9 (by rw [q10]; exact h)
  rw [q10] at b10 B10
  simp only [] at b10 B10
  rcases q11 : numM 255 m10 with ⟨n11, m11⟩
  have b11 := numM_bytes 255 m10 b10
  have B11 : m11.bad = false → _ := fun h => numM_back (most := 255) (m := m10) b10 (by rw [q11]; exact h)
  rw [q11] at b11 B11
  simp only [] at b11 B11
  have HD : readM l = (⟨n1, n2, n3, n4, n5 == 1, n6, n7, n8, n9, n10, n11⟩, m11) := by unfold readM; simp only [q1, q2, q3, q4, q5, q6, q7, q8, q9, q10, q11]
  rw [HD] at h ⊢
  simp only [] at h ⊢
  clear q1 q2 q3 q4 q5 q6 q7 q8 q9 q10 q11 HD
  obtain ⟨g10, i11, e11⟩ := B11 h
  obtain ⟨g9, i10, e10⟩ := B10 g10
  obtain ⟨g8, i9, e9⟩ := B9 g9
  obtain ⟨g7, k8, i8, e8⟩ := B8 g8
  obtain ⟨g6, i7, e7⟩ := B7 g7
  obtain ⟨g5, i6, e6⟩ := B6 g6
  obtain ⟨g4, i5, e5⟩ := B5 g5
  obtain ⟨g3, k4, i4, e4⟩ := B4 g4
  obtain ⟨g2, k3, i3, e3⟩ := B3 g3
  obtain ⟨g1, i2, e2⟩ := B2 g2
  obtain ⟨g0, i1, e1⟩ := B1 g1
  refine ⟨⟨i1, i2, i3, i4, i6, i8, i9, i10, i11, k3, k4, k8⟩, i7, ?_⟩
  have eb : b01 (n5 == 1) = n5 := by
    have hx : n5 = 0 ∨ n5 = 1 := by have := i5.1; have := i5.2; omega
    rcases hx with rfl | rfl <;> rfl
  unfold ansL putL
  simp only [List.append_assoc]
  rw [eb, ← e11, ← e10, ← e9, ← e8, ← e7, ← e6, ← e5, ← e4, ← e3, ← e2, ← e1]
end Go.Proofs.Ytpaknjmcjblahaa.H
