/- There and back, plain: what is decoded (read) has the very bytes; a byte more or less is none. -/
import Derived.Test.YtpaknjmcjblahaaCWirN
namespace Go.Proofs.Ytpaknjmcjblahaa.H
open Go.RowKit Go.Proofs.Ytpaknjmcjblahaa.P Go.Proofs.YtpaknjmcjblahaaW.PrintWords Go.Proofs.YtpaknjmcjblahaaW.PrintLast
set_option linter.unusedVariables false
set_option linter.unusedSimpArgs false
theorem dec_ok {l : List Int} (hb : bytes l) : ((decOut l).2 = 0 ∧ encOut (decOut l).1 = (l, 0) ∧ rightQ (decOut l).1 = true ∧ okRq (decOut l).1) ∨ (decOut l).2 = 171 := by
  unfold decOut
  by_cases h : (decM l).2.bad = true ∨ 0 < (decM l).2.rest.length ∨ rightQ (decM l).1 = false
  · rw [if_pos h]; exact .inr rfl
  · rw [if_neg h]
    have hbad : (decM l).2.bad = false := by
      cases e : (decM l).2.bad
      · rfl
      · exact absurd (.inl e) h
    have hr : (decM l).2.rest = [] := by
      cases e : (decM l).2.rest with
      | nil => rfl
      | cons x y => exact absurd (.inr (.inl (by rw [e]; simp))) h
    have hq : rightQ (decM l).1 = true := by
      cases e : rightQ (decM l).1
      · exact absurd (.inr (.inr e)) h
      · rfl
    obtain ⟨e, h1, h2⟩ := decM_back hb hbad
    refine .inl ⟨rfl, ?_, hq, okRu_of (form_of hq).ru, h1, h2⟩
    unfold encOut
    rw [if_pos hq]
    rw [hr, List.append_nil] at e
    rw [← e]
theorem read_ok {l : List Int} (hb : bytes l) : ((readOut l).2 = 0 ∧ ansOut (readOut l).1 = (l, 0) ∧ FormS (readOut l).1 ∧ inB wideW (readOut l).1.ad) ∨ (readOut l).2 = 171 := by
  unfold readOut
  by_cases h : (readM l).2.bad = true ∨ 0 < (readM l).2.rest.length
  · rw [if_pos h]; exact .inr rfl
  · rw [if_neg h]
    have hbad : (readM l).2.bad = false := by
      cases e : (readM l).2.bad
      · rfl
      · exact absurd (.inl e) h
    have hr : (readM l).2.rest = [] := by
      cases e : (readM l).2.rest with
      | nil => rfl
      | cons x y => exact absurd (.inr (by rw [e]; simp)) h
    obtain ⟨F, h1, e⟩ := readM_back hb hbad
    refine .inl ⟨rfl, ?_, F, h1⟩
    unfold ansOut
    rw [if_pos ((formS_iff _).2 F)]
    rw [hr, List.append_nil] at e
    rw [← e]
theorem enc_back {r : Rq} (hu : okRq r) (h : (encOut r).2 = 0) : rightQ r = true ∧ encOut r = (encL r, 0) := by
  unfold encOut at h ⊢
  cases e : rightQ r with
  | true => rw [if_pos rfl]; exact ⟨rfl, rfl⟩
  | false => rw [e] at h; simp at h
theorem encOut_code (r : Rq) : (encOut r).2 = 0 ∨ (encOut r).2 = 171 := by
  unfold encOut; split
  · exact .inl rfl
  · exact .inr rfl
theorem putN_pos (n : Int) : 0 < (putN n).length := Nat.pos_of_ne_zero (put_pos _)
theorem encL_two (r : Rq) : 2 ≤ (encL r).length := by
  have h1 := putN_pos r.k
  have h2 := putN_pos r.s
  unfold encL
  rw [List.length_append, List.length_append]
  omega
theorem dec_encL {r : Rq} (hu : okRq r) (h : rightQ r = true) : decOut (encL r) = (r, 0) := by
  have e := decM_enc h ⟨hu.2.1, hu.2.2⟩ []
  rw [List.append_nil] at e
  unfold decOut
  rw [e, if_neg (by simp [h])]
theorem dec_more {r : Rq} (hu : okRq r) (h : rightQ r = true) (x : Int) : (decOut (encL r ++ [x])).2 = 171 := by
  have e := decM_enc h ⟨hu.2.1, hu.2.2⟩ [x]
  unfold decOut
  rw [e, if_pos (.inr (.inl (by simp)))]
theorem dec_less {r : Rq} {l : List Int} {x : Int} (hu : okRq r) (h : rightQ r = true) (hb : bytes l) (e : encL r = l ++ [x]) : (decOut l).2 = 171 := by
  rcases dec_ok hb with ⟨h0, h1, h2, h3⟩ | h0
  · have e1 := (enc_back h3 (by rw [h1])).2
    rw [h1] at e1
    have e2 : l = encL (decOut l).1 := (Prod.mk.inj e1).1
    have := dec_more h3 h2 x
    rw [← e2, ← e, dec_encL hu h] at this
    simp at this
  · exact h0
theorem enc_inj {r s : Rq} (hr : okRq r) (hs : okRq s) (h1 : rightQ r = true) (h2 : rightQ s = true) : encL r = encL s ↔ r = s := by
  constructor
  · intro e
    have a := dec_encL hr h1
    have b := dec_encL hs h2
    rw [e, b] at a
    exact ((Prod.mk.inj a).1).symm
  · rintro rfl; rfl
theorem bytes_nil : bytes [] := fun x hx => by cases hx
theorem bn_of {most n : Int} (h : inB most n) (hm : most ≤ 4294967295) : bytes (putN n) := putN_bytes n (by have := h.2; omega)
theorem bytes_T (s : ByteArray) (h : s.size ≤ 40) : bytes (putT s) := bytes_append (put_bytes _ (by omega)) (bytesOf_bytes s)
theorem bytes_Ru {r : Ru} (h : okW r) : bytes (putRu r) := putL_bytes _ (fun x hx => by have := numsR_ok h x hx; omega)
theorem bytes_encL {r : Rq} (hu : okRq r) (h : rightQ r = true) : bytes (encL r) := by
  have F := form_of h
  have u1 : inB wideW r.qf := ⟨hu.2.1.1, hu.2.1.2⟩
  have u2 : inB wideW r.qt := ⟨hu.2.2.1, hu.2.2.2⟩
  have s255 : (255 : Int) ≤ 4294967295 := by decide
  unfold encL
  refine bytes_append (bn_of F.k (by decide)) (bytes_append (bn_of F.s s255) ?_)
  split
  · exact bytes_T _ F.nm
  · split
    · exact bytes_append (bn_of F.ek s255) (bytes_Ru F.ru)
    · split
      · exact bytes_append (bn_of F.qk s255) (bytes_append (bn_of F.qa s255) (bytes_append (bn_of F.qb s255) (bytes_append (bn_of F.qw s255) (bytes_append (bn_of u1 wideLe) (bytes_append (bn_of u2 wideLe) (bytes_T _ F.qo))))))
      · exact bytes_nil
theorem putN_le {most n : Int} (h : inB most n) (hm : most ≤ 4294967295) : (putN n).length ≤ 9 := by
  have := putL_len [n] (fun x hx => by simp only [List.mem_singleton] at hx; have := h.2; omega)
  simpa [putL] using this
theorem putT_le (s : ByteArray) (h : s.size ≤ 40) : (putT s).length ≤ 49 := by
  have h1 := putN_le (most := 40) (n := (s.size : Int)) ⟨by omega, by omega⟩ (by decide)
  unfold putN at h1
  rw [Int.toNat_natCast] at h1
  unfold putT
  rw [List.length_append, bytesOf_len]
  omega
theorem encL_le {r : Rq} (hu : okRq r) (h : rightQ r = true) : (encL r).length ≤ 1000 := by
  have F := form_of h
  have u1 : inB wideW r.qf := ⟨hu.2.1.1, hu.2.1.2⟩
  have u2 : inB wideW r.qt := ⟨hu.2.2.1, hu.2.2.2⟩
  have s255 : (255 : Int) ≤ 4294967295 := by decide
  have a1 := putN_le F.k (by decide)
  have a2 := putN_le F.s s255
  have a3 := putT_le _ F.nm
  have a4 := putN_le F.ek s255
  have a5 := putRu_len F.ru
  have a6 := putN_le F.qk s255
  have a7 := putN_le F.qa s255
  have a8 := putN_le F.qb s255
  have a9 := putN_le F.qw s255
  have b1 := putN_le u1 wideLe
  have b2 := putN_le u2 wideLe
  have b3 := putT_le _ F.qo
  unfold encL
  rw [List.length_append, List.length_append]
  split
  · omega
  · split
    · rw [List.length_append]; omega
    · split
      · simp only [List.length_append]; omega
      · simp only [List.length_nil]; omega
end Go.Proofs.Ytpaknjmcjblahaa.H
