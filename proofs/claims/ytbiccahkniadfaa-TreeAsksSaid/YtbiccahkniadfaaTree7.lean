/- Put, Drop: walked. -/
import Derived.Test.YtbiccahkniadfaaTree6
namespace Go.Proofs.Ytbiccahkniadfaa.H
open Go.RowKit Go.Proofs.Ytbiccahkniadfaa.P Go.Proofs.YtbiccahkniadfaaW.PrintWords Go.Proofs.YtbiccahkniadfaaW.PrintLast Go.Proofs.YtbiccahkniadfaaW.PrintMore
set_option linter.unusedVariables false
set_option linter.unusedSimpArgs false
/-- May no key more be laid? -/
def fullT (k : Int) (t : T) : Bool := !hasT k t && decide (1024 ≤ sz t)
/-- What Put, and Drop, hand back: a tree, or an error. -/
def PutAt (no : Bool) (code : Int) (t : T) (w : World) (e : Ending) (w' : World) : Prop :=
  ((no = true ∧ e = .returned (.tuple #[.pointer none, .int .i64 code])) ∨ (no = false ∧ ∃ g, e = .returned (.tuple #[.pointer (some ⟨g, 0, none⟩), .int .i64 0]) ∧ RootAt w' (some ⟨g, 0, none⟩) t)) ∧ Below w.heap.size w w'
set_option maxRecDepth 20000 in
set_option maxHeartbeats 1600000 in
theorem put_any (P : Option Addr) (k v : Int) (t : T) (w : World) (h : RootAt w P t) (hs : sz t ≤ 40000) :
    Calls Try.prog 10 #[.pointer P, .int .u64 k, .int .i64 v] w fun e w' => PutAt (fullT k t) 41 (withT k v t) w e w' := by
  have HG := Aside0.mk (get_any P k t w h)
  have HLN := Aside0.mk (len_any P t w h)
  have HTP := Aside0.mk (top_any P t w h)
  have HF := Aside0.mk (show fullT k t = (!(getT k t).isSome && decide (1024 ≤ sz t)) from by rw [get_has]; rfl)
  have HSZ := Aside0.mk hs
  clear h hs
  generalize hfu : fullT k t = fu at *
  have HFU := Aside0.mk hfu
  clear hfu
  go_enter Try.func10, Try.ntmps10
  go_wp2_with fail
  have hg := HG.out
  generalize (getT k t).getD 0 = gv at *
  cases hi : (getT k t).isSome with
  | true =>
    rw [hi] at hg
    have HNF := Aside0.mk (show fu = false from by rw [HF.out, hi]; rfl)
    clear hi
    refine hg.mono ?_
    rintro e w1 ⟨rfl, rfl⟩
    clear hg
    go_wp2_with fail
    refine HTP.out.mono ?_
    rintro e w2 ⟨⟨p, rfl, ht⟩, rfl⟩
    have HT := Aside0.mk ht
    clear ht
    go_wp2_with fail
    refine (with_any k v t p _ HT.out HSZ.out).mono ?_
    rintro e w3 ⟨⟨q, rfl, hq⟩, hb⟩
    have HQ := Aside0.mk hq
    have HB := Aside0.mk hb
    clear hq hb
    go_wp2_with fail
    go_ret2
    exact ⟨.inr ⟨HNF.out, w3.heap.size, rfl, .inr ⟨_, q, rfl, blk_new w3 _, HQ.out.below ((Below.refl w3.heap.size w3).alloc (Nat.le_refl _) _)⟩⟩, HB.out.alloc HB.out.size _⟩
  | false =>
    rw [hi] at hg
    refine hg.mono ?_
    rintro e w1 ⟨rfl, rfl⟩
    clear hg
    go_wp2_with fail
    refine HLN.out.mono ?_
    rintro e w2 ⟨rfl, rfl⟩
    have HSZ2 := Aside0.mk HSZ.out
    generalize hsz : sz t = n at HLN HF HSZ ⊢
    by_cases hz : 1024 ≤ n
    · have HNF := Aside0.mk (show fu = true from by rw [HF.out, hi, decide_eq_true hz]; rfl)
      have hz' : (1024 : Int) ≤ (n : Int) := by omega
      clear hi hz hsz
      go_wp2_with fail
      go_ret2
      exact ⟨.inl ⟨HNF.out, rfl⟩, Below.refl _ _⟩
    · have HNF := Aside0.mk (show fu = false from by rw [HF.out, hi, decide_eq_false hz]; rfl)
      have hz' : ¬ (1024 : Int) ≤ (n : Int) := by omega
      clear hi hz hsz
      go_wp2_with fail
      refine HTP.out.mono ?_
      rintro e w2 ⟨⟨p, rfl, ht⟩, rfl⟩
      have HT := Aside0.mk ht
      clear ht
      go_wp2_with fail
      refine (with_any k v t p _ HT.out HSZ2.out).mono ?_
      rintro e w3 ⟨⟨q, rfl, hq⟩, hb⟩
      have HQ := Aside0.mk hq
      have HB := Aside0.mk hb
      clear hq hb
      go_wp2_with fail
      go_ret2
      exact ⟨.inr ⟨HNF.out, w3.heap.size, rfl, .inr ⟨_, q, rfl, blk_new w3 _, HQ.out.below ((Below.refl w3.heap.size w3).alloc (Nat.le_refl _) _)⟩⟩, HB.out.alloc HB.out.size _⟩
set_option maxHeartbeats 1600000 in
theorem drop_any (P : Option Addr) (k : Int) (t : T) (w : World) (h : RootAt w P t) (hs : sz t ≤ 40000) :
    Calls Try.prog 11 #[.pointer P, .int .u64 k] w fun e w' => PutAt (!hasT k t) 42 (withoutT k t) w e w' := by
  have HG := Aside0.mk (get_any P k t w h)
  have HTP := Aside0.mk (top_any P t w h)
  have HF := Aside0.mk (get_has k t)
  have HSZ := Aside0.mk hs
  clear h hs
  go_enter Try.func11, Try.ntmps11
  go_wp2_with fail
  have hg := HG.out
  generalize (getT k t).getD 0 = gv at *
  cases hi : (getT k t).isSome with
  | true =>
    rw [hi] at hg
    have HH := Aside0.mk (show hasT k t = true from by rw [← HF.out]; exact hi)
    clear hi
    refine hg.mono ?_
    rintro e w1 ⟨rfl, rfl⟩
    clear hg
    go_wp2_with fail
    refine HTP.out.mono ?_
    rintro e w2 ⟨⟨p, rfl, ht⟩, rfl⟩
    have HT := Aside0.mk ht
    clear ht
    go_wp2_with fail
    refine (without_any k t p _ HT.out HSZ.out HH.out).mono ?_
    rintro e w3 ⟨⟨q, rfl, hq⟩, hb⟩
    have HQ := Aside0.mk hq
    have HB := Aside0.mk hb
    clear hq hb
    go_wp2_with fail
    go_ret2
    exact ⟨.inr ⟨by rw [HH.out]; rfl, w3.heap.size, rfl, .inr ⟨_, q, rfl, blk_new w3 _, HQ.out.below ((Below.refl w3.heap.size w3).alloc (Nat.le_refl _) _)⟩⟩, HB.out.alloc HB.out.size _⟩
  | false =>
    rw [hi] at hg
    have HH := Aside0.mk (show hasT k t = false from by rw [← HF.out]; exact hi)
    clear hi
    refine hg.mono ?_
    rintro e w1 ⟨rfl, rfl⟩
    clear hg
    go_wp2_with fail
    go_ret2
    exact ⟨.inl ⟨by rw [HH.out]; rfl, rfl⟩, Below.refl _ _⟩
end Go.Proofs.Ytbiccahkniadfaa.H
