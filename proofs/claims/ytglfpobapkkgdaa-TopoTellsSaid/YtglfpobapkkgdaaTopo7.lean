import Derived.Test.YtglfpobapkkgdaaTopo6
import Derived.Laws.EntriesVeiled
namespace Go.Proofs.Ytglfpobapkkgdaa.H
open Go.RowKit Go.Proofs.Ytglfpobapkkgdaa.P Go.Proofs.YtglfpobapkkgdaaW.PrintWords Go.Proofs.YtglfpobapkkgdaaW.PrintLast Go.Proofs.YtglfpobapkkgdaaW.PrintMore
set_option linter.unusedVariables false
set_option linter.unusedSimpArgs false
/-- Does one come from a device to another one? -/
noncomputable def connB (n : Nat) (l1 : List S38) (a b : Int) : Bool := @decide (Conn (devs l1) n a b) (Classical.propDecidable _)
theorem connB_iff (n : Nat) (l1 : List S38) (a b : Int) : connB n l1 a b = true ↔ Conn (devs l1) n a b := by simp [connB]
theorem connB_out (n : Nat) (l1 : List S38) (a b : Int) (h : ¬ (0 ≤ a ∧ a < n ∧ 0 ≤ b ∧ b < n)) : connB n l1 a b = false := by
  cases hq : connB n l1 a b with
  | false => rfl
  | true => exact absurd ((connB_iff n l1 a b).1 hq).range h
theorem info4' : (Try.prog.info? 4).map (fun i => (i.zero, i.size, i.bytes)) = some (some (.bool false), 1, 1) := by kernel_rfl
theorem madeB (n : Nat) : madeCells #[Value.bool false] n = ((List.replicate n false).map Value.bool).toArray := by
  apply Array.ext
  · simp [madeCells]
  · intro i h1 h2
    simp [madeCells, Nat.mod_one]
theorem sz_alloc (w : World) (o : Obj) : (w.alloc o).heap.size = w.heap.size + 1 := by simp
theorem heap_alloc_get (w : World) (o : Obj) (i : Nat) : (w.alloc o).heap[i]? = if i = w.heap.size then some o else w.heap[i]? := by
  split
  · rename_i h
    rw [h]; exact blk_new w o
  · rename_i h
    by_cases h2 : i < w.heap.size
    · exact Below.heap_alloc w o i h2
    · have hs : (w.alloc o).heap.size = w.heap.size + 1 := by simp
      rw [Array.getElem?_eq_none (by omega), Array.getElem?_eq_none (by omega)]
theorem RS.start (w : World) (n : Nat) (V0 : Value) (A1 : Option Addr) (c1 : Nat) (l1 : List S38) (hr1 : Kd.C k38 w A1 l1.length l1) :
    RS (w.heap.size + 1) (w.heap.size + 1 + 1 + 1) w.heap.size (w.heap.size + 1 + 1 + 1 + 1) (w.heap.size + 1 + 1) n V0 A1 c1 l1
      (((((w.alloc (.cells #[V0, .slice A1 l1.length c1] 25)).alloc (.cells #[.int .i64 n] 3)).alloc (.cells (madeCells #[.bool false] n) 4)).alloc (.cells #[.slice (some ⟨w.heap.size + 1 + 1, 0, none⟩) n n] 55)).alloc
        (.cells #[.func (.func 31) #[] #[.pointer (some ⟨w.heap.size + 1, 0, none⟩), .pointer (some ⟨w.heap.size + 1 + 1 + 1, 0, none⟩), .pointer (some ⟨w.heap.size, 0, none⟩), .pointer (some ⟨w.heap.size + 1 + 1 + 1 + 1, 0, none⟩)]] 56)) (List.replicate n false) := by
  have hb := ((((((Below.refl w.heap.size w).alloc (Nat.le_refl _) (.cells #[V0, .slice A1 l1.length c1] 25)).alloc (by simp) (.cells #[.int .i64 n] 3)).alloc (by simp; omega) (.cells (madeCells #[.bool false] n) 4)).alloc (by simp; omega) (.cells #[.slice (some ⟨w.heap.size + 1 + 1, 0, none⟩) n n] 55)).alloc (by simp; omega)
        (.cells #[.func (.func 31) #[] #[.pointer (some ⟨w.heap.size + 1, 0, none⟩), .pointer (some ⟨w.heap.size + 1 + 1 + 1, 0, none⟩), .pointer (some ⟨w.heap.size, 0, none⟩), .pointer (some ⟨w.heap.size + 1 + 1 + 1 + 1, 0, none⟩)]] 56))
  refine ⟨?_, ?_, ?_, ?_, ?_, by simp, by omega, w, hr1, hb, by omega⟩ <;> rw [madeB] <;> simp only [heap_alloc_get, sz_alloc] <;> simp <;> (try (rw [if_neg (by omega), if_neg (by omega), if_neg (by omega)]))
set_option maxHeartbeats 2000000 in
theorem reaches_any (A0 : Option Addr) (c0 : Nat) (l0 : List Int) (A1 : Option Addr) (c1 : Nat) (l1 : List S38) (a b : Int) (w : World) (hr1 : Kd.C k38 w A1 l1.length l1) (hc1 : l1.length ≤ c1) (hn : l0.length ≤ 1000) (hl1 : l1.length ≤ 1000) (hrg : Ranged (devs l1) l0.length) :
    Calls Try.prog 13 #[.agg #[.slice A0 l0.length c0, .slice A1 l1.length c1], .int .i64 a, .int .i64 b] w fun e w' => e = .returned (.bool (connB l0.length l1 a b)) ∧ Below w.heap.size w w' := by
  have hu25 := Try.underlying25
  have HR1 := Aside0.mk hr1
  clear hr1
  generalize hnn : l0.length = n at *
  clear hnn
  by_cases h1 : a < 0
  · have d1 : decide (a < 0) = true := by simpa using h1
    rw [connB_out n l1 a b (by omega)]
    clear h1
    go_enter Try.func13, Try.ntmps13
    go_wp2
    go_ret
    exact ⟨rfl, ((Below.refl _ _).alloc (Nat.le_refl _) _).alloc (by simp) _⟩
  · have d1 : decide (a < 0) = false := by simpa using h1
    by_cases h2 : (n : Int) ≤ a
    · have d2 : decide ((n : Int) ≤ a) = true := by simpa using h2
      rw [connB_out n l1 a b (by omega)]
      clear h1 h2
      go_enter Try.func13, Try.ntmps13
      go_wp2
      go_ret
      exact ⟨rfl, ((Below.refl _ _).alloc (Nat.le_refl _) _).alloc (by simp) _⟩
    · have d2 : decide ((n : Int) ≤ a) = false := by simpa using h2
      by_cases h3 : b < 0
      · have d3 : decide (b < 0) = true := by simpa using h3
        rw [connB_out n l1 a b (by omega)]
        clear h1 h2 h3
        go_enter Try.func13, Try.ntmps13
        go_wp2
        go_ret
        exact ⟨rfl, ((Below.refl _ _).alloc (Nat.le_refl _) _).alloc (by simp) _⟩
      · have d3 : decide (b < 0) = false := by simpa using h3
        by_cases h4 : (n : Int) ≤ b
        · have d4 : decide ((n : Int) ≤ b) = true := by simpa using h4
          rw [connB_out n l1 a b (by omega)]
          clear h1 h2 h3 h4
          go_enter Try.func13, Try.ntmps13
          go_wp2
          go_ret
          exact ⟨rfl, ((Below.refl _ _).alloc (Nat.le_refl _) _).alloc (by simp) _⟩
        · have d4 : decide ((n : Int) ≤ b) = false := by simpa using h4
          have ha0 : 0 ≤ a := by omega
          have ha1 : a < n := by omega
          have hb0 : 0 ≤ b := by omega
          have hb1 : b < n := by omega
          have hmk := print_make_of (P := Try.prog) 55 4 (.bool false) 1 Try.underlying55 info4' rfl (by decide) n (by omega)
          clear h1 h2 h3 h4
          go_enter Try.func13, Try.ntmps13
          go_wp2_with fail
          have hst := RS.start w n (.slice A0 n c0) A1 c1 l1 HR1.out
          have hb := ((((((Below.refl w.heap.size w).alloc (Nat.le_refl _) (.cells #[.slice A0 n c0, .slice A1 l1.length c1] 25)).alloc (by simp) (.cells #[.int .i64 n] 3)).alloc (by simp; omega) (.cells (madeCells #[.bool false] n) 4)).alloc (by simp; omega) (.cells #[.slice (some ⟨w.heap.size + 1 + 1, 0, none⟩) n n] 55)).alloc (by simp; omega)
            (.cells #[.func (.func 31) #[] #[.pointer (some ⟨w.heap.size + 1, 0, none⟩), .pointer (some ⟨w.heap.size + 1 + 1 + 1, 0, none⟩), .pointer (some ⟨w.heap.size, 0, none⟩), .pointer (some ⟨w.heap.size + 1 + 1 + 1 + 1, 0, none⟩)]] 56))
          have hsz : w.heap.size ≤ w.heap.size + 1 + 1 := by omega
          generalize (((((w.alloc (Obj.cells #[Value.slice A0 n c0, .slice A1 l1.length c1] 25)).alloc (.cells #[.int .i64 n] 3)).alloc (.cells (madeCells #[.bool false] n) 4)).alloc (.cells #[.slice (some ⟨w.heap.size + 1 + 1, 0, none⟩) n n] 55)).alloc (Obj.cells #[.func (.func 31) #[] #[.pointer (some ⟨w.heap.size + 1, 0, none⟩), .pointer (some ⟨w.heap.size + 1 + 1 + 1, 0, none⟩), .pointer (some ⟨w.heap.size, 0, none⟩), .pointer (some ⟨w.heap.size + 1 + 1 + 1 + 1, 0, none⟩)]] 56)) = W at *
          have HB := Aside0.mk hb
          have HS := Aside0.mk hb.size
          have hcall := walk_any (w.heap.size + 1) (w.heap.size + 1 + 1 + 1) w.heap.size (w.heap.size + 1 + 1 + 1 + 1) (w.heap.size + 1 + 1) n (.slice A0 n c0) A1 c1 l1 rfl hn hc1 hl1 hrg _ _ a W (Nat.le_refl _) ha0 ha1 hst
          clear hst hb hmk
          refine hcall.mono ?_
          rintro e w2 ⟨rfl, t, hr', hg', hw', ho'⟩
          have HE := Aside0.mk (show connB n l1 a b = t.getD b.toNat false from by
            have h1 := Walked.all hw' ho' b
            rw [Bool.eq_iff_iff, connB_iff, ← h1]
            exact ⟨fun h => h.2, fun h => ⟨hb0, h⟩⟩)
          have HB2 := Aside0.mk (GrewK.below HB.out hg' hsz HS.out)
          have x1 := blk_cell hr'.s_ 0
          have x5 := hr'.cellAt b.toNat (by omega)
          clear hcall hr' hg' hw' ho'
          go_wp2
          go_ret
          exact ⟨by rw [HE.out]; rfl, HB2.out⟩
end Go.Proofs.Ytglfpobapkkgdaa.H
