/- NumR1. -/
import Derived.Test.YtpaknjmcjblahaaENumW1
import Derived.Deep.CutRange
import Derived.BigQuiet
namespace Go.Proofs.Ytpaknjmcjblahaa.H
open Go.RowKit Go.Proofs.Ytpaknjmcjblahaa.P Go.Proofs.YtpaknjmcjblahaaW.PrintWords Go.Proofs.YtpaknjmcjblahaaW.PrintLast Go.Proofs.YtpaknjmcjblahaaW.PrintMore
set_option linter.unusedVariables false
set_option maxRecDepth 20000
set_option linter.unusedSimpArgs false
def nextR : List Int → Int × Nat
  | [] => (0, 0)
  | c :: rest => if c < 240 then (c, 1) else if 248 ≤ c ∨ rest.length < (c - 239).toNat then (0, 0) else (val (rest.take (c - 239).toNat), 1 + (c - 239).toNat)
def firstR : List Int → Int × Nat
  | [] => (0, 0)
  | c :: rest => if c < 240 then (c, 1) else (0, 0)
theorem nextR_le (l : List Int) : (nextR l).2 ≤ l.length := by
  unfold nextR
  split
  · simp
  · split
    · simp
    · split
      · simp
      · simp; omega
theorem nextR_bound (l : List Int) (hb : bytes l) : 0 ≤ (nextR l).1 ∧ (nextR l).1 < 18446744073709551616 := by
  unfold nextR
  split
  · simp
  · rename_i c rest
    have hc := hb c (by simp)
    split
    · dsimp only; omega
    · split
      · simp
      · rename_i h1 h2
        have := val_take (bytes_drop hb 1) (c - 239).toNat (by simp; omega)
        simp only [List.drop_one, List.tail_cons] at this
        have h8 := pow_le 8 (show (c - 239).toNat ≤ 8 by omega)
        dsimp only
        omega
theorem nextS_R (l : List Int) (h : (nextS l).2 ≠ 0) : nextR l = nextS l := by
  unfold nextS at h ⊢
  unfold nextR
  split
  · rfl
  · rename_i c rest
    dsimp only at h ⊢
    by_cases h1 : c < 240
    · rw [if_pos h1, if_pos h1]
    · rw [if_neg h1] at h ⊢
      rw [if_neg h1]
      by_cases h2 : 248 ≤ c ∨ rest.length < (c - 239).toNat ∨ rest.getD 0 0 = 0
      · rw [if_pos h2] at h; exact absurd rfl h
      · rw [if_neg h2] at h ⊢
        rw [if_neg (fun h3 => h2 (h3.elim .inl fun h4 => .inr (.inl h4)))]
        by_cases h3 : val (rest.take (c - 239).toNat) < 240
        · rw [if_pos h3] at h; exact absurd rfl h
        · rw [if_neg h3]
theorem nextR_good (l : List Int) (hb : bytes l) (h1 : (nextR l).2 ≠ 0) (h2 : put (nextR l).1.toNat = l.take (nextR l).2) : nextS l = nextR l := by
  have hn := nextR_bound l hb
  have e := nextS_put (nextR l).1.toNat (by omega) (l.drop (nextR l).2)
  rw [h2, List.take_append_drop] at e
  rw [e, Int.toNat_of_nonneg hn.1, List.length_take, Nat.min_eq_left (nextR_le l)]
theorem nextR_iff (l : List Int) (hb : bytes l) : (nextS l).2 ≠ 0 ↔ (nextR l).2 ≠ 0 ∧ put (nextR l).1.toNat = l.take (nextR l).2 := by
  constructor
  · intro h
    rw [nextS_R l h]
    exact ⟨h, (put_nextS l hb h).1.symm⟩
  · rintro ⟨h1, h2⟩
    rw [nextR_good l hb h1 h2]
    exact h1
def RM (w : World) (g : Nat) (B : Option Addr) (d : Nat) (b : List Int) (i : Nat) (bad : Bool) : Prop :=
  w.heap[g]? = some (.cells #[.slice B b.length d, .int .i64 i, .bool bad] 84 (0, 0)) ∧ i ≤ b.length ∧ b.length ≤ d ∧ Kd.C (Kd.int .u8) w B b.length b
theorem mul_byte {n z : Int} (h0 : 0 ≤ n) (h1 : n < 72057594037927936) (h2 : 0 ≤ z) (h3 : z ≤ 255) : IntKind.u64.wrap (IntKind.u64.wrap (256 * n) + z) = n * 256 + z := by
  rw [IntWalk.u64_in (256 * n) (by omega), IntWalk.u64_in _ (by omega)]
  omega
theorem grown_below {w w1 w2 : World} (h : w.grownBy w1 none) (hb : Below w1.heap.size w1 w2) : w.grownBy w2 none :=
  ⟨hb.os.trans h.os, hb.tape.trans h.tape, hb.output.trans h.output, Nat.le_trans h.size hb.size, fun k hk hn => (hb.block k (Nat.lt_of_lt_of_le hk h.size)).trans (h.block k hk hn)⟩
theorem grown_set {w w2 : World} (h : w.grownBy w2 none) (g j : Nat) (v : Value) : w.grownBy (w2.setCell ⟨g, j, none⟩ v) (some g) := by
  have hb := (Below.refl g w2).setCell (p := ⟨g, j, none⟩) (Nat.le_refl _) v
  refine ⟨hb.os.trans h.os, hb.tape.trans h.tape, hb.output.trans h.output, Nat.le_trans h.size hb.size, fun k hk hn => ?_⟩
  rw [Below.heap_setCell w2 ⟨g, j, none⟩ v k (fun e => hn (by rw [e]))]
  exact h.block k hk (by simp)
theorem RM.apart {w : World} {g d i : Nat} {bad : Bool} {l : List Int} {A : Option Addr} {B : Option Addr} {n : Nat} {m : List Int} (hg : w.heap[g]? = some (.cells #[.slice A l.length d, .int .i64 i, .bool bad] 84 (0, 0))) (hC : Kd.C (Kd.int .u8) w B n m) : ∀ ad, B = some ad → 0 < n → ad.block ≠ g := by
  rintro ad rfl hn rfl
  obtain ⟨ad', e, hx⟩ := Kd.at_int hC 0 (by omega) (by omega)
  cases e
  simp only [Int.toNat_zero, Addr.add_zero'] at hx
  unfold World.cell? at hx
  rw [hg] at hx
  dsimp only at hx
  split at hx
  · cases hx
  · rcases h0 : ad.off with _ | _ | _ | o
    · rw [h0] at hx; simp at hx
    · rw [h0] at hx; simp at hx
    · rw [h0] at hx; simp at hx
    · rw [h0] at hx; simp at hx
theorem C_setCell' {α : Type} {K : Kd α} {w : World} {A : Option Addr} {n : Nat} {l : List α} {g : Nat} (q : Nat) {v : Value} (h : K.C w A n l) (hK : ∀ x c, K.K w x c → K.K (w.setCell ⟨g, q, none⟩ v) x c) (hne : ∀ ad, A = some ad → 0 < n → ad.block ≠ g) : K.C (w.setCell ⟨g, q, none⟩ v) A n l := by
  refine ⟨h.1, h.2.1, fun hn => ?_⟩
  obtain ⟨ad, e, hc⟩ := h.2.2 hn
  refine ⟨ad, e, fun j p hj => ?_⟩
  obtain ⟨c, h1, h2, h3⟩ := hc j p hj
  refine ⟨c, h1, hK p c h2, fun i u hu => ?_⟩
  rw [← h3 i u hu]
  have hb : (ad.add (j * K.sz + i)).block = ad.block := by unfold Addr.add; split <;> rfl
  have hne' := hne ad e hn
  exact World.cell?_of_block (w := w) (by rw [hb]; exact Below.heap_setCell w _ _ _ hne')
theorem str_inj (l m : List Int) (hl : bytes l) (hm : bytes m) : ((strOfNums l).toList == (strOfNums m).toList) = decide (l = m) := by
  have e : ∀ l : List Int, (strOfNums l).toList = bs l := fun l => by simp [strOfNums, bs]
  rw [e, e]
  by_cases h : l = m
  · subst h; simp
  · have : ¬ bs l = bs m := fun h' => h (bs_inj l m hl hm h')
    simp [h, this]
set_option maxHeartbeats 4000000 in
set_option maxRecDepth 20000 in
theorem refnumber_any (g : Nat) (B : Option Addr) (d : Nat) (b : List Int) (i : Nat) (bad : Bool) (m : Int) (w : World) (h : RM w g B d b i bad) (hb : bytes b) (hm0 : 0 ≤ m) :
    Calls Try.prog 57 #[.pointer (some ⟨g, 0, none⟩), .int .u64 m] w fun e w' => w.grownBy w' (some g) ∧
      (((nextS (b.drop i)).2 ≠ 0 ∧ (nextS (b.drop i)).1 ≤ m ∧ e = .returned (.tuple #[.int .u64 (nextS (b.drop i)).1, .int .i64 0]) ∧ RM w' g B d b (i + (nextS (b.drop i)).2) bad) ∨
        (((nextS (b.drop i)).2 = 0 ∨ m < (nextS (b.drop i)).1) ∧ e = .returned (.tuple #[.int .u64 0, .int .i64 11]) ∧ RM w' g B d b i true)) := by
  obtain ⟨hg, hi, hd, hr⟩ := h
  have hll := Kd.C_max hr
  have hcell0 := blk_cell hg 0
  have hcell1 := blk_cell hg 1
  have hcell2 := blk_cell hg 2
  have hfr := blk_frozen hg 0
  obtain ⟨i0, hi0, hz0, hz1, hz2⟩ := info_parts info5
  obtain ⟨A', hcut, hrd, hcc⟩ := print_drop_of (P := Try.prog) (Value.int .u8) 0 37 5 .i64 Try.underlying37 hi0 hz1 B d b (i : Int) (by omega) (by omega) hd
  rw [Int.toNat_natCast] at hcut hrd hcc
  have HRB := Aside0.mk hr
  have hC := Kd.C_of_reads (h1 := fun _ => rfl) (hrd w (Kd.reads_of_C (enc := Value.int .u8) (d := (0 : Int)) (h1 := fun _ => rfl) hr))
  have hbl : bytes (b.drop i) := bytes_drop hb i
  have hlb : (b.drop i).length + i ≤ b.length := by rw [List.length_drop]; omega
  generalize b.drop i = l at *
  have HC := Aside0.mk hC
  have HBL := Aside0.mk hbl
  have HG := Aside0.mk hg
  clear hr hrd hi0 hz0 hz1 hz2 hg hbl hC
  go_enter Try.func57, Try.ntmps57
  go_wp2
  go_quiet (fail)
  have HC1 := Aside0.mk (show Kd.C (Kd.int .u8) (w.drewN nq) A' l.length l from HC.out)
  have HRB1 := Aside0.mk (show Kd.C (Kd.int .u8) (w.drewN nq) B b.length b from HRB.out)
  have HG1 := Aside0.mk (show (w.drewN nq).heap[g]? = some (.cells #[.slice B b.length d, .int .i64 i, .bool bad] 84 (0, 0)) from HG.out)
  have HW1 : Aside0 (w.grownBy (w.drewN nq) none) := ⟨⟨rfl, rfl, rfl, Nat.le_refl _, fun _ _ _ => rfl⟩⟩
  clear HC HRB HG hcell0 hcell1 hcell2 hfr
  generalize w.drewN nq = w1 at *
  go_upto_region 3 with fail
  repeat ((fail_if_success (show Code.wp _ (Code.seq (Code.region 4 _ _) _) _ _ _)); (first | go_values | go_skip | go_guarded | go_step | go_upon | go_back))
  go_cut [7, 8] from 9 (fun v u w' => w' = w1 ∧ v = .int .u64 (firstR l).1 ∧ u = .int .i64 (firstR l).2)
  case first =>
    cases l with
    | nil =>
      go_wp2
      go_meet
      case rel => exact ⟨rfl, rfl, rfl⟩
    | cons c rest =>
      obtain ⟨ad, e, hx0⟩ := Kd.at_int HC1.out 0 (by omega) (by simp)
      cases e
      simp only [Int.toNat_zero, rd, List.getD_cons_zero, Addr.add_zero'] at hx0
      have hlen : (c :: rest).length = rest.length + 1 := rfl
      rw [hlen] at *
      have hc := HBL.out c (by simp)
      by_cases h1 : c < 240
      · have HS := Aside0.mk (show firstR (c :: rest) = (c, 1) by simp [firstR, h1])
        go_wp2
        go_meet
        case rel => rw [HS.out]; exact ⟨rfl, rfl, rfl⟩
      · have HS := Aside0.mk (show firstR (c :: rest) = (0, 0) by simp [firstR, h1])
        have h1' : decide (c < 240) = false := by simp; omega
        go_wp2
        go_meet
        case rel => rw [HS.out]; exact ⟨rfl, rfl, rfl⟩
  case rest =>
    obtain ⟨rfl, rfl, rfl⟩ := hcut
    repeat ((fail_if_success (show Code.wp _ (Code.seq (Code.region 7 _ _) _) _ _ _)); (first | go_values | go_skip | go_guarded | go_step | go_upon | go_back))
    go_cut [7, 8] from 9 (fun v u w' => w' = wc ∧ v = .int .u64 (nextR l).1 ∧ u = .int .i64 (nextR l).2)
    case first =>
      cases l with
      | nil =>
        have HS := Aside0.mk (show firstR [] = nextR [] from rfl)
        go_wp2
        go_meet
        case rel => exact ⟨rfl, rfl, rfl⟩
      | cons c rest =>
        obtain ⟨ad, e, hx0⟩ := Kd.at_int HC1.out 0 (by omega) (by simp)
        cases e
        simp only [Int.toNat_zero, rd, List.getD_cons_zero, Addr.add_zero'] at hx0
        have hlen : (c :: rest).length = rest.length + 1 := rfl
        rw [hlen] at *
        have hc := HBL.out c (by simp)
        by_cases h1 : c < 240
        · have HS := Aside0.mk (show nextR (c :: rest) = firstR (c :: rest) by simp [firstR, nextR, h1])
          generalize firstR (c :: rest) = F at *
          have h1' : decide (240 ≤ c) = false := by simp; omega
          go_wp2
          go_meet
          case rel => rw [HS.out]; exact ⟨rfl, rfl, rfl⟩
        · have HF : firstR (c :: rest) = (0, 0) := by simp [firstR, h1]
          rw [HF] at *
          have h1' : decide (240 ≤ c) = true := by simp; omega
          by_cases h2 : 248 ≤ c
          · have h2' : decide (c < 248) = false := by simp; omega
            have HS := Aside0.mk (show nextR (c :: rest) = (0, 0) by simp [nextR, h1, h2])
            go_wp2
            go_meet
            case rel => rw [HS.out]; exact ⟨rfl, rfl, rfl⟩
          · have h2' : decide (c < 248) = true := by simp; omega
            by_cases h3 : rest.length < (c - 239).toNat
            · have h3' : decide (c - 239 < (rest.length : Int) + 1) = false := by simp; omega
              have HS := Aside0.mk (show nextR (c :: rest) = (0, 0) by simp [nextR, h1, h3])
              go_wp2
              go_meet
              case rel => rw [HS.out]; exact ⟨rfl, rfl, rfl⟩
            · have h3' : decide (c - 239 < (rest.length : Int) + 1) = true := by simp; omega
              have HS := Aside0.mk (show nextR (c :: rest) = (val (rest.take (c - 239).toNat), 1 + (c - 239).toNat) by
                simp only [nextR]
                rw [if_neg h1, if_neg (by omega)])
              obtain ⟨k, hk⟩ : ∃ k : Nat, k = (c - 239).toNat := ⟨_, rfl⟩
              rw [← hk] at HS
              have hk1 : c - 238 = ((k + 1 : Nat) : Int) := by omega
              have hk2 : k ≤ rest.length := by omega
              have hk3 : k ≤ 8 := by omega
              have HK := Aside0.mk hk1
              clear hk1 hk
              go_wp2
              rw [HK.out]
              clear h3' h2' h1' hx0
              go_loop [7, 9] (fun v u => ∃ q : Nat, 1 ≤ q ∧ q ≤ k + 1 ∧ u = .int .i64 q ∧ v = .int .u64 (val (rest.take (q - 1)))) (fun _ u => 20 - (intOf u).toNat)
              case atStart => exact ⟨1, Nat.le_refl _, by omega, rfl, by simp [val]⟩
              case round =>
                obtain ⟨q, hq1, hq2, rfl, rfl⟩ := hrel
                by_cases hlt : q < k + 1
                · obtain ⟨ad', e, hx⟩ := Kd.at_int HC1.out (q : Nat) (by omega) (by simp; omega)
                  cases e
                  obtain ⟨j, rfl⟩ : ∃ j, q = j + 1 := ⟨q - 1, by omega⟩
                  simp only [Int.toNat_natCast, rd, List.getD_cons_succ] at hx
                  rw [Nat.add_sub_cancel]
                  have hz : rest.take (j + 1) = rest.take j ++ [rest.getD j 0] := by
                    rw [List.take_succ_eq_append_getElem (by omega), List.getD_eq_getElem?_getD, List.getElem?_eq_getElem (by omega)]; rfl
                  have hzb : 0 ≤ rest.getD j 0 ∧ rest.getD j 0 ≤ 255 := by
                    rw [List.getD_eq_getElem?_getD, List.getElem?_eq_getElem (by omega)]
                    exact HBL.out _ (List.mem_cons_of_mem _ (List.getElem_mem _))
                  have HV := Aside0.mk ((congrArg val hz).trans (val_snoc _ _))
                  clear hz
                  have hvb := val_take (bytes_drop HBL.out 1) j (by simp; omega)
                  have hvb7 := pow_le 7 (show j ≤ 7 by omega)
                  simp only [List.drop_one, List.tail_cons] at hvb
                  generalize rest.getD j 0 = z at *
                  generalize val (rest.take j) = n at *
                  have HO := Aside0.mk (mul_byte hvb.1 (by omega) hzb.1 hzb.2)
                  obtain ⟨q, hq⟩ : ∃ q, q = j + 1 := ⟨_, rfl⟩
                  rw [← hq] at hx hq1 hq2 hlt ⊢
                  have HQ := Aside0.mk hq
                  have hqk : decide ((q : Int) < (k + 1 : Nat)) = true := by simp; omega
                  clear hvb hvb7 hq
                  go_wp2
                  go_round
                  case rel => exact ⟨q + 1, by omega, by omega, by go_num, by rw [HO.out, HQ.out, Nat.add_sub_cancel, HV.out]⟩
                  case measure => simp [intOf]; omega
                · obtain rfl : q = k + 1 := by omega
                  have HS' := Aside0.mk (show (nextR (c :: rest)).1 = val (rest.take (k + 1 - 1)) by rw [HS.out, Nat.add_sub_cancel])
                  have HS2 := Aside0.mk (show (((nextR (c :: rest)).2 : Nat) : Int) = ((k + 1 : Nat) : Int) by rw [HS.out, Nat.add_comm 1])
                  generalize val (rest.take (k + 1 - 1)) = V at *
                  go_wp2
                  go_meet
                  case rel => rw [HS'.out, HS2.out]; exact ⟨rfl, rfl, rfl⟩
    case rest =>
      obtain ⟨rfl, rfl, rfl⟩ := hcut
      have hbd := nextR_bound l HBL.out
      have hle := nextR_le l
      have HIF := Aside0.mk (nextR_iff l HBL.out)
      have HLE := Aside0.mk (And.intro hi hd)
      have hnS := nextS_R l
      have hgood := nextR_good l HBL.out
      have hput := put_nextS l HBL.out
      have hcells := And.intro (blk_cell HG1.out 0) (And.intro (blk_cell HG1.out 1) (blk_cell HG1.out 2))
      obtain ⟨hcell0, hcell1, hcell2⟩ := hcells
      have hfr1 := blk_frozen HG1.out 1
      have hfr2 := blk_frozen HG1.out 2
      have hkl : (nextR l).2 ≤ l.length := hle
      have HNS := Aside0.mk hnS
      have HGD := Aside0.mk hgood
      have HPU := Aside0.mk hput
      generalize hT : l.take (nextR l).2 = T at *
      have HTT := Aside0.mk hT
      have hTl : T.length = (nextR l).2 := by rw [← hT, List.length_take]; omega
      generalize nextR l = F at *
      obtain ⟨n, k⟩ := F
      dsimp only at *
      clear hnS hgood hput hT
      by_cases hk : k = 0
      · subst hk
        have HNO : Aside0 ((nextS l).2 = 0 ∨ m < (nextS l).1) := ⟨by
          by_cases h : (nextS l).2 = 0
          · exact .inl h
          · exact absurd (congrArg Prod.snd (HNS.out h)).symm h⟩
        go_upto_region 13 with fail
        refine wp_region_held_drew (S := (fun _ => True)) (by kernel_rfl) ?hSa0 (fun hHeld => ?_)
        case hSa0 => exact trivial
        refine held_take 0 (some 75) (v := ?va0) rfl rfl (by kernel_rfl) (by kernel_rfl) (by kernel_rfl) (fun _ _ _ h => h) (by rfl) ?ya0 (by assumption) ?_
        case ya0 => ((intro w hSw); (try dsimp only at hSw); go_simp <;> (with_reducible rfl))
        try simp only [Act.put, List.setIfInBounds_toArray, List.set_cons_zero, List.set_cons_succ]
        refine held_take 1 (some 76) (v := ?va1) rfl rfl (by kernel_rfl) (by kernel_rfl) (by kernel_rfl) (fun _ _ _ h => h) (by rfl) ?ya1 (by assumption) ?_
        case ya1 => ((intro w hSw); (try dsimp only at hSw); go_simp <;> (with_reducible rfl))
        try simp only [Act.put, List.setIfInBounds_toArray, List.set_cons_zero, List.set_cons_succ]
        refine held_take 2 (some 77) (v := ?va2) rfl rfl (by kernel_rfl) (by kernel_rfl) (by kernel_rfl) (fun _ _ _ h => h) (by rfl) ?ya2 (by assumption) ?_
        case ya2 => ((intro w hSw); (try dsimp only at hSw); go_simp <;> (with_reducible rfl))
        try simp only [Act.put, List.setIfInBounds_toArray, List.set_cons_zero, List.set_cons_succ]
        refine held_skip 3 (some 78) rfl rfl (by kernel_rfl) (by kernel_rfl) (by kernel_rfl) (fun _ _ _ h => h) (by rfl) (by assumption) ?_
        try simp only [Act.put, List.setIfInBounds_toArray, List.set_cons_zero, List.set_cons_succ]
        refine held_skip 4 (some 79) rfl rfl (by kernel_rfl) (by kernel_rfl) (by kernel_rfl) (fun _ _ _ h => h) (by rfl) (by assumption) ?_
        try simp only [Act.put, List.setIfInBounds_toArray, List.set_cons_zero, List.set_cons_succ]
        refine held_skip 5 (some 80) rfl rfl (by kernel_rfl) (by kernel_rfl) (by kernel_rfl) (fun _ _ _ h => h) (by rfl) (by assumption) ?_
        try simp only [Act.put, List.setIfInBounds_toArray, List.set_cons_zero, List.set_cons_succ]
        refine held_take 6 (some 81) (v := ?va6) rfl rfl (by kernel_rfl) (by kernel_rfl) (by kernel_rfl) (fun _ _ _ h => h) (by rfl) ?ya6 (by assumption) ?_
        case ya6 => ((intro w hSw); (try dsimp only at hSw); go_simp <;> (with_reducible rfl))
        try simp only [Act.put, List.setIfInBounds_toArray, List.set_cons_zero, List.set_cons_succ]
        refine held_take 7 (some 82) (v := ?va7) rfl rfl (by kernel_rfl) (by kernel_rfl) (by kernel_rfl) (fun _ _ _ h => h) (by rfl) ?ya7 (by assumption) ?_
        case ya7 => ((intro w hSw); (try dsimp only at hSw); go_simp <;> (with_reducible rfl))
        try simp only [Act.put, List.setIfInBounds_toArray, List.set_cons_zero, List.set_cons_succ]
        refine held_skip 8 (some 83) rfl rfl (by kernel_rfl) (by kernel_rfl) (by kernel_rfl) (fun _ _ _ h => h) (by rfl) (by assumption) ?_
        try simp only [Act.put, List.setIfInBounds_toArray, List.set_cons_zero, List.set_cons_succ]
        refine held_skip 9 (some 84) rfl rfl (by kernel_rfl) (by kernel_rfl) (by kernel_rfl) (fun _ _ _ h => h) (by rfl) (by assumption) ?_
        try simp only [Act.put, List.setIfInBounds_toArray, List.set_cons_zero, List.set_cons_succ]
        refine held_skip 10 (some 85) rfl rfl (by kernel_rfl) (by kernel_rfl) (by kernel_rfl) (fun _ _ _ h => h) (by rfl) (by assumption) ?_
        try simp only [Act.put, List.setIfInBounds_toArray, List.set_cons_zero, List.set_cons_succ]
        refine held_skip 11 (some 86) rfl rfl (by kernel_rfl) (by kernel_rfl) (by kernel_rfl) (fun _ _ _ h => h) (by rfl) (by assumption) ?_
        try simp only [Act.put, List.setIfInBounds_toArray, List.set_cons_zero, List.set_cons_succ]
        refine held_skip 12 (some 87) rfl rfl (by kernel_rfl) (by kernel_rfl) (by kernel_rfl) (fun _ _ _ h => h) (by rfl) (by assumption) ?_
        try simp only [Act.put, List.setIfInBounds_toArray, List.set_cons_zero, List.set_cons_succ]
        refine held_skip 13 (some 88) rfl rfl (by kernel_rfl) (by kernel_rfl) (by kernel_rfl) (fun _ _ _ h => h) (by rfl) (by assumption) ?_
        try simp only [Act.put, List.setIfInBounds_toArray, List.set_cons_zero, List.set_cons_succ]
        refine held_skip 14 (some 89) rfl rfl (by kernel_rfl) (by kernel_rfl) (by kernel_rfl) (fun _ _ _ h => h) (by rfl) (by assumption) ?_
        try simp only [Act.put, List.setIfInBounds_toArray, List.set_cons_zero, List.set_cons_succ]
        refine held_skip 15 (some 90) rfl rfl (by kernel_rfl) (by kernel_rfl) (by kernel_rfl) (fun _ _ _ h => h) (by rfl) (by assumption) ?_
        try simp only [Act.put, List.setIfInBounds_toArray, List.set_cons_zero, List.set_cons_succ]
        refine held_take 16 (some 91) (v := ?va16) rfl rfl (by kernel_rfl) (by kernel_rfl) (by kernel_rfl) (fun _ _ _ h => h) (by rfl) ?ya16 (by assumption) ?_
        case ya16 => ((intro w hSw); (try dsimp only at hSw); go_simp <;> (with_reducible rfl))
        try simp only [Act.put, List.setIfInBounds_toArray, List.set_cons_zero, List.set_cons_succ]
        refine wpAnyH_done (by kernel_rfl) ?_ _
        have HGR : Aside0 (w.grownBy wc.drew none) := ⟨grown_below HW1.out (Below.refl _ _).drew⟩
        have HGR2 := Aside0.mk (show wc.drew.heap[g]? = some (.cells #[.slice B b.length d, .int .i64 i, .bool bad] 84 (0, 0)) from HG1.out)
        have HRB2 := Aside0.mk (show Kd.C (Kd.int .u8) wc.drew B b.length b from HRB1.out)
        go_wp2
        go_ret2
        refine ⟨grown_set HGR.out g 2 _, .inr ⟨HNO.out, rfl, ?_⟩⟩
        have e := blk_put HGR2.out 2 (.bool true) rfl
        refine ⟨e, HLE.out.1, HLE.out.2, C_setCell' 2 HRB2.out (fun _ _ h => h) (RM.apart HGR2.out HRB2.out)⟩
      · have hk0 : ((k : Int) == 0) = false := by simpa using hk
        by_cases hm : m < n
        · have HNO : Aside0 ((nextS l).2 = 0 ∨ m < (nextS l).1) := ⟨by
            by_cases h : (nextS l).2 = 0
            · exact .inl h
            · right
              rw [← HNS.out h]
              exact hm⟩
          have hm' : decide (m < n) = true := by simp; omega
          go_upto_region 13 with fail
          refine wp_region_held_drew (S := (fun _ => True)) (by kernel_rfl) ?hSb0 (fun hHeld => ?_)
          case hSb0 => exact trivial
          refine held_take 0 (some 75) (v := ?vb0) rfl rfl (by kernel_rfl) (by kernel_rfl) (by kernel_rfl) (fun _ _ _ h => h) (by rfl) ?yb0 (by assumption) ?_
          case yb0 => ((intro w hSw); (try dsimp only at hSw); go_simp <;> (with_reducible rfl))
          try simp only [Act.put, List.setIfInBounds_toArray, List.set_cons_zero, List.set_cons_succ]
          refine held_take 1 (some 76) (v := ?vb1) rfl rfl (by kernel_rfl) (by kernel_rfl) (by kernel_rfl) (fun _ _ _ h => h) (by rfl) ?yb1 (by assumption) ?_
          case yb1 => ((intro w hSw); (try dsimp only at hSw); go_simp <;> (with_reducible rfl))
          try simp only [Act.put, List.setIfInBounds_toArray, List.set_cons_zero, List.set_cons_succ]
          refine held_take 2 (some 77) (v := ?vb2) rfl rfl (by kernel_rfl) (by kernel_rfl) (by kernel_rfl) (fun _ _ _ h => h) (by rfl) ?yb2 (by assumption) ?_
          case yb2 => ((intro w hSw); (try dsimp only at hSw); go_simp <;> (with_reducible rfl))
          try simp only [Act.put, List.setIfInBounds_toArray, List.set_cons_zero, List.set_cons_succ]
          refine held_take 3 (some 78) (v := ?vb3) rfl rfl (by kernel_rfl) (by kernel_rfl) (by kernel_rfl) (fun _ _ _ h => h) (by rfl) ?yb3 (by assumption) ?_
          case yb3 => ((intro w hSw); (try dsimp only at hSw); go_simp <;> (with_reducible rfl))
          try simp only [Act.put, List.setIfInBounds_toArray, List.set_cons_zero, List.set_cons_succ]
          refine held_take 4 (some 79) (v := ?vb4) rfl rfl (by kernel_rfl) (by kernel_rfl) (by kernel_rfl) (fun _ _ _ h => h) (by rfl) ?yb4 (by assumption) ?_
          case yb4 => ((intro w hSw); (try dsimp only at hSw); go_simp <;> (with_reducible rfl))
          try simp only [Act.put, List.setIfInBounds_toArray, List.set_cons_zero, List.set_cons_succ]
          refine held_take 5 (some 80) (v := ?vb5) rfl rfl (by kernel_rfl) (by kernel_rfl) (by kernel_rfl) (fun _ _ _ h => h) (by rfl) ?yb5 (by assumption) ?_
          case yb5 => ((intro w hSw); (try dsimp only at hSw); go_simp <;> (with_reducible rfl))
          try simp only [Act.put, List.setIfInBounds_toArray, List.set_cons_zero, List.set_cons_succ]
          refine held_take 6 (some 81) (v := ?vb6) rfl rfl (by kernel_rfl) (by kernel_rfl) (by kernel_rfl) (fun _ _ _ h => h) (by rfl) ?yb6 (by assumption) ?_
          case yb6 => ((intro w hSw); (try dsimp only at hSw); go_simp <;> (with_reducible rfl))
          try simp only [Act.put, List.setIfInBounds_toArray, List.set_cons_zero, List.set_cons_succ]
          refine held_take 7 (some 82) (v := ?vb7) rfl rfl (by kernel_rfl) (by kernel_rfl) (by kernel_rfl) (fun _ _ _ h => h) (by rfl) ?yb7 (by assumption) ?_
          case yb7 => ((intro w hSw); (try dsimp only at hSw); go_simp <;> (with_reducible rfl))
          try simp only [Act.put, List.setIfInBounds_toArray, List.set_cons_zero, List.set_cons_succ]
          refine held_skip 8 (some 83) rfl rfl (by kernel_rfl) (by kernel_rfl) (by kernel_rfl) (fun _ _ _ h => h) (by rfl) (by assumption) ?_
          try simp only [Act.put, List.setIfInBounds_toArray, List.set_cons_zero, List.set_cons_succ]
          refine held_skip 9 (some 84) rfl rfl (by kernel_rfl) (by kernel_rfl) (by kernel_rfl) (fun _ _ _ h => h) (by rfl) (by assumption) ?_
          try simp only [Act.put, List.setIfInBounds_toArray, List.set_cons_zero, List.set_cons_succ]
          refine held_skip 10 (some 85) rfl rfl (by kernel_rfl) (by kernel_rfl) (by kernel_rfl) (fun _ _ _ h => h) (by rfl) (by assumption) ?_
          try simp only [Act.put, List.setIfInBounds_toArray, List.set_cons_zero, List.set_cons_succ]
          refine held_skip 11 (some 86) rfl rfl (by kernel_rfl) (by kernel_rfl) (by kernel_rfl) (fun _ _ _ h => h) (by rfl) (by assumption) ?_
          try simp only [Act.put, List.setIfInBounds_toArray, List.set_cons_zero, List.set_cons_succ]
          refine held_skip 12 (some 87) rfl rfl (by kernel_rfl) (by kernel_rfl) (by kernel_rfl) (fun _ _ _ h => h) (by rfl) (by assumption) ?_
          try simp only [Act.put, List.setIfInBounds_toArray, List.set_cons_zero, List.set_cons_succ]
          refine held_skip 13 (some 88) rfl rfl (by kernel_rfl) (by kernel_rfl) (by kernel_rfl) (fun _ _ _ h => h) (by rfl) (by assumption) ?_
          try simp only [Act.put, List.setIfInBounds_toArray, List.set_cons_zero, List.set_cons_succ]
          refine held_skip 14 (some 89) rfl rfl (by kernel_rfl) (by kernel_rfl) (by kernel_rfl) (fun _ _ _ h => h) (by rfl) (by assumption) ?_
          try simp only [Act.put, List.setIfInBounds_toArray, List.set_cons_zero, List.set_cons_succ]
          refine held_skip 15 (some 90) rfl rfl (by kernel_rfl) (by kernel_rfl) (by kernel_rfl) (fun _ _ _ h => h) (by rfl) (by assumption) ?_
          try simp only [Act.put, List.setIfInBounds_toArray, List.set_cons_zero, List.set_cons_succ]
          refine held_take 16 (some 91) (v := ?vb16) rfl rfl (by kernel_rfl) (by kernel_rfl) (by kernel_rfl) (fun _ _ _ h => h) (by rfl) ?yb16 (by assumption) ?_
          case yb16 => ((intro w hSw); (try dsimp only at hSw); go_simp <;> (with_reducible rfl))
          try simp only [Act.put, List.setIfInBounds_toArray, List.set_cons_zero, List.set_cons_succ]
          refine wpAnyH_done (by kernel_rfl) ?_ _
          have HGR : Aside0 (w.grownBy wc.drew none) := ⟨grown_below HW1.out (Below.refl _ _).drew⟩
          have HGR2 := Aside0.mk (show wc.drew.heap[g]? = some (.cells #[.slice B b.length d, .int .i64 i, .bool bad] 84 (0, 0)) from HG1.out)
          have HRB2 := Aside0.mk (show Kd.C (Kd.int .u8) wc.drew B b.length b from HRB1.out)
          go_wp2
          go_ret2
          refine ⟨grown_set HGR.out g 2 _, .inr ⟨HNO.out, rfl, ?_⟩⟩
          have e := blk_put HGR2.out 2 (.bool true) rfl
          refine ⟨e, HLE.out.1, HLE.out.2, C_setCell' 2 HRB2.out (fun _ _ h => h) (RM.apart HGR2.out HRB2.out)⟩
        · have hm' : decide (m < n) = false := by simp; omega
          have HRP := Aside0.mk (fun w => refput_any n w hbd.1 hbd.2)
          have hpb := put_bytes n.toNat (by omega)
          have hTb : bytes T := by rw [← HTT.out]; exact bytes_take HBL.out _
          have hsi := str_inj (put n.toNat) T hpb hTb
          have HS1 := Aside0.mk (fun (w : World) A c h => Kd.C_string (P := Try.prog) (w := w) (A := A) (n := (put n.toNat).length) (xs := put n.toNat) (src := 37) (dst := 9) (c := c) Try.underlying37 Try.underlying5 Try.underlying9 h)
          have HS2 := Aside0.mk (fun (w : World) A c h => Kd.C_string (P := Try.prog) (w := w) (A := A) (n := T.length) (xs := T) (src := 37) (dst := 9) (c := c) Try.underlying37 Try.underlying5 Try.underlying9 h)
          have HT1 : Aside0 (Kd.C (Kd.int .u8) wc A' T.length T) := ⟨by rw [← HTT.out]; exact Kd.C_take HC1.out hkl⟩
          obtain ⟨i012, hi012, _, hsz12, _⟩ := info_parts info5
          have hsl := (print_take_int (P := Try.prog) (k := .u8) 37 5 Try.underlying37 hi012 hsz12 A' (d - i) l (k : Int) (by omega) (by omega) hcc).1
          rw [Int.toNat_natCast, HTT.out] at hsl
          generalize hZ : put n.toNat = Z at *
          have HZ := Aside0.mk hZ
          generalize strOfNums Z = s1 at *
          generalize strOfNums T = s2 at *
          clear hZ hpb hTb hi012 hsz12 hTl
          by_cases hZT : Z = T
          · have hst : (s1.toList == s2.toList) = true := by rw [hsi]; simp [hZT]
            have HYES : Aside0 ((nextS l).2 ≠ 0 ∧ (nextS l).1 = n ∧ (nextS l).2 = k) := ⟨by
              have h := HGD.out hk hZT
              rw [h]
              exact ⟨hk, rfl, rfl⟩⟩
            clear hsi hZT
            go_upto_region 13 with fail
            refine wp_region_held_drew (S := (fun w' => (convert 37 9 (.slice A' T.length (d - i))).run Try.prog w' = .ok (.string s2) w')) (by kernel_rfl) ?hSc0 (fun hHeld => ?_)
            case hSc0 => first | exact K1.out | exact hK0 | exact HS2.out _ A' (d - i) HT1.out
            refine held_take 0 (some 75) (v := ?vc0) rfl rfl (by kernel_rfl) (by kernel_rfl) (by kernel_rfl) (fun _ _ _ h => h) (by rfl) ?yc0 (by assumption) ?_
            case yc0 => ((intro w hSw); (try dsimp only at hSw); go_simp <;> (with_reducible rfl))
            try simp only [Act.put, List.setIfInBounds_toArray, List.set_cons_zero, List.set_cons_succ]
            refine held_take 1 (some 76) (v := ?vc1) rfl rfl (by kernel_rfl) (by kernel_rfl) (by kernel_rfl) (fun _ _ _ h => h) (by rfl) ?yc1 (by assumption) ?_
            case yc1 => ((intro w hSw); (try dsimp only at hSw); go_simp <;> (with_reducible rfl))
            try simp only [Act.put, List.setIfInBounds_toArray, List.set_cons_zero, List.set_cons_succ]
            refine held_take 2 (some 77) (v := ?vc2) rfl rfl (by kernel_rfl) (by kernel_rfl) (by kernel_rfl) (fun _ _ _ h => h) (by rfl) ?yc2 (by assumption) ?_
            case yc2 => ((intro w hSw); (try dsimp only at hSw); go_simp <;> (with_reducible rfl))
            try simp only [Act.put, List.setIfInBounds_toArray, List.set_cons_zero, List.set_cons_succ]
            refine held_take 3 (some 78) (v := ?vc3) rfl rfl (by kernel_rfl) (by kernel_rfl) (by kernel_rfl) (fun _ _ _ h => h) (by rfl) ?yc3 (by assumption) ?_
            case yc3 => ((intro w hSw); (try dsimp only at hSw); go_simp <;> (with_reducible rfl))
            try simp only [Act.put, List.setIfInBounds_toArray, List.set_cons_zero, List.set_cons_succ]
            refine held_take 4 (some 79) (v := ?vc4) rfl rfl (by kernel_rfl) (by kernel_rfl) (by kernel_rfl) (fun _ _ _ h => h) (by rfl) ?yc4 (by assumption) ?_
            case yc4 => ((intro w hSw); (try dsimp only at hSw); go_simp <;> (with_reducible rfl))
            try simp only [Act.put, List.setIfInBounds_toArray, List.set_cons_zero, List.set_cons_succ]
            refine held_take 5 (some 80) (v := ?vc5) rfl rfl (by kernel_rfl) (by kernel_rfl) (by kernel_rfl) (fun _ _ _ h => h) (by rfl) ?yc5 (by assumption) ?_
            case yc5 => ((intro w hSw); (try dsimp only at hSw); go_simp <;> (with_reducible rfl))
            try simp only [Act.put, List.setIfInBounds_toArray, List.set_cons_zero, List.set_cons_succ]
            refine held_take 6 (some 81) (v := ?vc6) rfl rfl (by kernel_rfl) (by kernel_rfl) (by kernel_rfl) (fun _ _ _ h => h) (by rfl) ?yc6 (by assumption) ?_
            case yc6 => ((intro w hSw); (try dsimp only at hSw); go_simp <;> (with_reducible rfl))
            try simp only [Act.put, List.setIfInBounds_toArray, List.set_cons_zero, List.set_cons_succ]
            refine held_take 7 (some 82) (v := ?vc7) rfl rfl (by kernel_rfl) (by kernel_rfl) (by kernel_rfl) (fun _ _ _ h => h) (by rfl) ?yc7 (by assumption) ?_
            case yc7 => ((intro w hSw); (try dsimp only at hSw); go_simp <;> (with_reducible rfl))
            try simp only [Act.put, List.setIfInBounds_toArray, List.set_cons_zero, List.set_cons_succ]
            refine held_take 8 (some 83) (v := ?vc8) rfl rfl (by kernel_rfl) (by kernel_rfl) (by kernel_rfl) (fun _ _ _ h => h) (by rfl) ?yc8 (by assumption) ?_
            case yc8 => ((intro w hSw); (try dsimp only at hSw); go_simp <;> (with_reducible rfl))
            try simp only [Act.put, List.setIfInBounds_toArray, List.set_cons_zero, List.set_cons_succ]
            refine held_take 11 (some 86) (v := ?vc11) rfl rfl (by kernel_rfl) (by kernel_rfl) (by kernel_rfl) (fun _ _ _ h => h) (by rfl) ?yc11 (by assumption) ?_
            case yc11 => ((intro w hSw); (try dsimp only at hSw); go_simp <;> (with_reducible rfl))
            try simp only [Act.put, List.setIfInBounds_toArray, List.set_cons_zero, List.set_cons_succ]
            refine held_take 12 (some 87) (v := ?vc12) rfl rfl (by kernel_rfl) (by kernel_rfl) (by kernel_rfl) (fun _ _ _ h => h) (by rfl) ?yc12 (by assumption) ?_
            case yc12 => ((intro w hSw); (try dsimp only at hSw); go_simp <;> (with_reducible rfl))
            try simp only [Act.put, List.setIfInBounds_toArray, List.set_cons_zero, List.set_cons_succ]
            refine held_take 13 (some 88) (v := ?vc13) rfl rfl (by kernel_rfl) (by kernel_rfl) (by kernel_rfl) (fun _ _ _ h => h) (by rfl) ?yc13 (by assumption) ?_
            case yc13 => ((intro w hSw); (try dsimp only at hSw); go_simp <;> (with_reducible rfl))
            try simp only [Act.put, List.setIfInBounds_toArray, List.set_cons_zero, List.set_cons_succ]
            refine held_take 14 (some 89) (v := ?vc14) rfl rfl (by kernel_rfl) (by kernel_rfl) (by kernel_rfl) (fun _ _ _ h => h) (by rfl) ?yc14 (by assumption) ?_
            case yc14 => ((intro w hSw); (try dsimp only at hSw); go_simp <;> (with_reducible rfl))
            try simp only [Act.put, List.setIfInBounds_toArray, List.set_cons_zero, List.set_cons_succ]
            refine wpAnyH_ready (rs := [9]) (by kernel_rfl) (by simp) ?_
            refine AllReadyH.cons rfl (fun K hK => ?_) AllReadyH.nil
            go_simp
            refine (HRP.out _).mono ?_
            rintro e w3 ⟨⟨A5, c5, rfl, hc5, ho5⟩, hb5⟩
            replace hb5 : Below wc.heap.size wc w3 := (Below.refl _ _).drew.trans hb5
            have K1 := Aside0.mk (HS2.out w3 A' (d - i) (Kd.C_below HT1.out hb5))
            have hcv := HS1.out w3 A5 c5 (OwnBytes.C ho5)
            have HB5 := Aside0.mk hb5
            clear ho5 hb5
            refine hK.out _ _ ?hSc10 (fun hHeld => ?_)
            case hSc10 => first | exact K1.out | exact hK0 | exact HS2.out _ A' (d - i) HT1.out
            clear hK K
            try simp only [Act.put, List.setIfInBounds_toArray, List.set_cons_zero, List.set_cons_succ]
            refine wpAnyH_ready (rs := [10]) (by kernel_rfl) (by simp) ?_
            refine AllReadyH.cons rfl (fun K hK => ?_) AllReadyH.nil
            go_simp
            refine hK.out _ _ ?hSc11 (fun hHeld => ?_)
            case hSc11 => first | exact K1.out | exact hK0 | exact HS2.out _ A' (d - i) HT1.out
            clear hK K
            try simp only [Act.put, List.setIfInBounds_toArray, List.set_cons_zero, List.set_cons_succ]
            refine held_take 15 (some 90) (v := ?vc15) rfl rfl (by kernel_rfl) (by kernel_rfl) (by kernel_rfl) (fun _ _ _ h => h) (by rfl) ?yc15 (by assumption) ?_
            case yc15 => ((intro w hSw); (try dsimp only at hSw); go_simp <;> (with_reducible rfl))
            try simp only [Act.put, List.setIfInBounds_toArray, List.set_cons_zero, List.set_cons_succ]
            refine held_take 16 (some 91) (v := ?vc16) rfl rfl (by kernel_rfl) (by kernel_rfl) (by kernel_rfl) (fun _ _ _ h => h) (by rfl) ?yc16 (by assumption) ?_
            case yc16 => ((intro w hSw); (try dsimp only at hSw); go_simp <;> (with_reducible rfl))
            try simp only [Act.put, List.setIfInBounds_toArray, List.set_cons_zero, List.set_cons_succ]
            refine wpAnyH_done (by kernel_rfl) ?_ _
            have HB6 := HB5
            have HGR : Aside0 (w.grownBy w3 none) := ⟨grown_below HW1.out HB5.out⟩
            have HGR2 := Aside0.mk (blk_below HG1.out HB5.out)
            have HRB2 := Aside0.mk (Kd.C_below HRB1.out HB5.out)
            have c90 := blk_cell HGR2.out 0
            have c91 := blk_cell HGR2.out 1
            have c92 := blk_cell HGR2.out 2
            have f91 := blk_frozen HGR2.out 1
            have f92 := blk_frozen HGR2.out 2
            go_wp2
            go_ret2
            refine ⟨grown_set HGR.out g 1 _, .inl ⟨HYES.out.1, by rw [HYES.out.2.1]; omega, by rw [HYES.out.2.1]; rfl, ?_⟩⟩
            have e := blk_put HGR2.out 1 (.int .i64 ((i : Int) + (k : Int))) rfl
            rw [HYES.out.2.2]
            refine ⟨e, by omega, HLE.out.2, C_setCell' 1 HRB2.out (fun _ _ h => h) (RM.apart HGR2.out HRB2.out)⟩
          · have hst : (s1.toList == s2.toList) = false := by rw [hsi]; simp [hZT]
            have HNO : Aside0 ((nextS l).2 = 0 ∨ m < (nextS l).1) := ⟨by
              by_cases h : (nextS l).2 = 0
              · exact .inl h
              · exfalso
                have h1 := (HPU.out h).1
                rw [← HNS.out h] at h1
                dsimp only at h1
                rw [HTT.out, HZ.out] at h1
                exact hZT h1.symm⟩
            clear hsi hZT
            go_upto_region 13 with fail
            refine wp_region_held_drew (S := (fun w' => (convert 37 9 (.slice A' T.length (d - i))).run Try.prog w' = .ok (.string s2) w')) (by kernel_rfl) ?hSd0 (fun hHeld => ?_)
            case hSd0 => first | exact K1.out | exact hK0 | exact HS2.out _ A' (d - i) HT1.out
            refine held_take 0 (some 75) (v := ?vd0) rfl rfl (by kernel_rfl) (by kernel_rfl) (by kernel_rfl) (fun _ _ _ h => h) (by rfl) ?yd0 (by assumption) ?_
            case yd0 => ((intro w hSw); (try dsimp only at hSw); go_simp <;> (with_reducible rfl))
            try simp only [Act.put, List.setIfInBounds_toArray, List.set_cons_zero, List.set_cons_succ]
            refine held_take 1 (some 76) (v := ?vd1) rfl rfl (by kernel_rfl) (by kernel_rfl) (by kernel_rfl) (fun _ _ _ h => h) (by rfl) ?yd1 (by assumption) ?_
            case yd1 => ((intro w hSw); (try dsimp only at hSw); go_simp <;> (with_reducible rfl))
            try simp only [Act.put, List.setIfInBounds_toArray, List.set_cons_zero, List.set_cons_succ]
            refine held_take 2 (some 77) (v := ?vd2) rfl rfl (by kernel_rfl) (by kernel_rfl) (by kernel_rfl) (fun _ _ _ h => h) (by rfl) ?yd2 (by assumption) ?_
            case yd2 => ((intro w hSw); (try dsimp only at hSw); go_simp <;> (with_reducible rfl))
            try simp only [Act.put, List.setIfInBounds_toArray, List.set_cons_zero, List.set_cons_succ]
            refine held_take 3 (some 78) (v := ?vd3) rfl rfl (by kernel_rfl) (by kernel_rfl) (by kernel_rfl) (fun _ _ _ h => h) (by rfl) ?yd3 (by assumption) ?_
            case yd3 => ((intro w hSw); (try dsimp only at hSw); go_simp <;> (with_reducible rfl))
            try simp only [Act.put, List.setIfInBounds_toArray, List.set_cons_zero, List.set_cons_succ]
            refine held_take 4 (some 79) (v := ?vd4) rfl rfl (by kernel_rfl) (by kernel_rfl) (by kernel_rfl) (fun _ _ _ h => h) (by rfl) ?yd4 (by assumption) ?_
            case yd4 => ((intro w hSw); (try dsimp only at hSw); go_simp <;> (with_reducible rfl))
            try simp only [Act.put, List.setIfInBounds_toArray, List.set_cons_zero, List.set_cons_succ]
            refine held_take 5 (some 80) (v := ?vd5) rfl rfl (by kernel_rfl) (by kernel_rfl) (by kernel_rfl) (fun _ _ _ h => h) (by rfl) ?yd5 (by assumption) ?_
            case yd5 => ((intro w hSw); (try dsimp only at hSw); go_simp <;> (with_reducible rfl))
            try simp only [Act.put, List.setIfInBounds_toArray, List.set_cons_zero, List.set_cons_succ]
            refine held_take 6 (some 81) (v := ?vd6) rfl rfl (by kernel_rfl) (by kernel_rfl) (by kernel_rfl) (fun _ _ _ h => h) (by rfl) ?yd6 (by assumption) ?_
            case yd6 => ((intro w hSw); (try dsimp only at hSw); go_simp <;> (with_reducible rfl))
            try simp only [Act.put, List.setIfInBounds_toArray, List.set_cons_zero, List.set_cons_succ]
            refine held_take 7 (some 82) (v := ?vd7) rfl rfl (by kernel_rfl) (by kernel_rfl) (by kernel_rfl) (fun _ _ _ h => h) (by rfl) ?yd7 (by assumption) ?_
            case yd7 => ((intro w hSw); (try dsimp only at hSw); go_simp <;> (with_reducible rfl))
            try simp only [Act.put, List.setIfInBounds_toArray, List.set_cons_zero, List.set_cons_succ]
            refine held_take 8 (some 83) (v := ?vd8) rfl rfl (by kernel_rfl) (by kernel_rfl) (by kernel_rfl) (fun _ _ _ h => h) (by rfl) ?yd8 (by assumption) ?_
            case yd8 => ((intro w hSw); (try dsimp only at hSw); go_simp <;> (with_reducible rfl))
            try simp only [Act.put, List.setIfInBounds_toArray, List.set_cons_zero, List.set_cons_succ]
            refine held_take 11 (some 86) (v := ?vd11) rfl rfl (by kernel_rfl) (by kernel_rfl) (by kernel_rfl) (fun _ _ _ h => h) (by rfl) ?yd11 (by assumption) ?_
            case yd11 => ((intro w hSw); (try dsimp only at hSw); go_simp <;> (with_reducible rfl))
            try simp only [Act.put, List.setIfInBounds_toArray, List.set_cons_zero, List.set_cons_succ]
            refine held_take 12 (some 87) (v := ?vd12) rfl rfl (by kernel_rfl) (by kernel_rfl) (by kernel_rfl) (fun _ _ _ h => h) (by rfl) ?yd12 (by assumption) ?_
            case yd12 => ((intro w hSw); (try dsimp only at hSw); go_simp <;> (with_reducible rfl))
            try simp only [Act.put, List.setIfInBounds_toArray, List.set_cons_zero, List.set_cons_succ]
            refine held_take 13 (some 88) (v := ?vd13) rfl rfl (by kernel_rfl) (by kernel_rfl) (by kernel_rfl) (fun _ _ _ h => h) (by rfl) ?yd13 (by assumption) ?_
            case yd13 => ((intro w hSw); (try dsimp only at hSw); go_simp <;> (with_reducible rfl))
            try simp only [Act.put, List.setIfInBounds_toArray, List.set_cons_zero, List.set_cons_succ]
            refine held_take 14 (some 89) (v := ?vd14) rfl rfl (by kernel_rfl) (by kernel_rfl) (by kernel_rfl) (fun _ _ _ h => h) (by rfl) ?yd14 (by assumption) ?_
            case yd14 => ((intro w hSw); (try dsimp only at hSw); go_simp <;> (with_reducible rfl))
            try simp only [Act.put, List.setIfInBounds_toArray, List.set_cons_zero, List.set_cons_succ]
            refine wpAnyH_ready (rs := [9]) (by kernel_rfl) (by simp) ?_
            refine AllReadyH.cons rfl (fun K hK => ?_) AllReadyH.nil
            go_simp
            refine (HRP.out _).mono ?_
            rintro e w3 ⟨⟨A5, c5, rfl, hc5, ho5⟩, hb5⟩
            replace hb5 : Below wc.heap.size wc w3 := (Below.refl _ _).drew.trans hb5
            have K1 := Aside0.mk (HS2.out w3 A' (d - i) (Kd.C_below HT1.out hb5))
            have hcv := HS1.out w3 A5 c5 (OwnBytes.C ho5)
            have HB5 := Aside0.mk hb5
            clear ho5 hb5
            refine hK.out _ _ ?hSd10 (fun hHeld => ?_)
            case hSd10 => first | exact K1.out | exact hK0 | exact HS2.out _ A' (d - i) HT1.out
            clear hK K
            try simp only [Act.put, List.setIfInBounds_toArray, List.set_cons_zero, List.set_cons_succ]
            refine wpAnyH_ready (rs := [10]) (by kernel_rfl) (by simp) ?_
            refine AllReadyH.cons rfl (fun K hK => ?_) AllReadyH.nil
            go_simp
            refine hK.out _ _ ?hSd11 (fun hHeld => ?_)
            case hSd11 => first | exact K1.out | exact hK0 | exact HS2.out _ A' (d - i) HT1.out
            clear hK K
            try simp only [Act.put, List.setIfInBounds_toArray, List.set_cons_zero, List.set_cons_succ]
            refine held_take 15 (some 90) (v := ?vd15) rfl rfl (by kernel_rfl) (by kernel_rfl) (by kernel_rfl) (fun _ _ _ h => h) (by rfl) ?yd15 (by assumption) ?_
            case yd15 => ((intro w hSw); (try dsimp only at hSw); go_simp <;> (with_reducible rfl))
            try simp only [Act.put, List.setIfInBounds_toArray, List.set_cons_zero, List.set_cons_succ]
            refine held_take 16 (some 91) (v := ?vd16) rfl rfl (by kernel_rfl) (by kernel_rfl) (by kernel_rfl) (fun _ _ _ h => h) (by rfl) ?yd16 (by assumption) ?_
            case yd16 => ((intro w hSw); (try dsimp only at hSw); go_simp <;> (with_reducible rfl))
            try simp only [Act.put, List.setIfInBounds_toArray, List.set_cons_zero, List.set_cons_succ]
            refine wpAnyH_done (by kernel_rfl) ?_ _
            have HB6 := HB5
            have HGR : Aside0 (w.grownBy w3 none) := ⟨grown_below HW1.out HB5.out⟩
            have HGR2 := Aside0.mk (blk_below HG1.out HB5.out)
            have HRB2 := Aside0.mk (Kd.C_below HRB1.out HB5.out)
            have c90 := blk_cell HGR2.out 0
            have c91 := blk_cell HGR2.out 1
            have c92 := blk_cell HGR2.out 2
            have f91 := blk_frozen HGR2.out 1
            have f92 := blk_frozen HGR2.out 2
            go_wp2
            go_ret2
            refine ⟨grown_set HGR.out g 2 _, .inr ⟨HNO.out, rfl, ?_⟩⟩
            have e := blk_put HGR2.out 2 (.bool true) rfl
            refine ⟨e, HLE.out.1, HLE.out.2, C_setCell' 2 HRB2.out (fun _ _ h => h) (RM.apart HGR2.out HRB2.out)⟩
end Go.Proofs.Ytpaknjmcjblahaa.H
