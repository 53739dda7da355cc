/- WirB. -/
import Derived.Test.YtpaknjmcjblahaaEWirQ
import Derived.Deep.LoopGhost
import Derived.Deep.RegionHeld3
namespace Go.Proofs.Ytpaknjmcjblahaa.H
open Go.RowKit Go.Proofs.Ytpaknjmcjblahaa.P Go.Proofs.YtpaknjmcjblahaaW.PrintWords Go.Proofs.YtpaknjmcjblahaaW.PrintLast Go.Proofs.YtpaknjmcjblahaaW.PrintMore
set_option linter.unusedVariables false
set_option linter.unusedSimpArgs false
set_option maxRecDepth 20000
def PredB {α : Type} (enc : α → Value) (p : α → Bool) (g : Nat) (lb : Array Value) (dom : α → Prop) (w : World) : Prop :=
  ∀ W x, dom x → Below w.heap.size w W → Calls Try.prog g (#[enc x] ++ lb) W fun e w' => e = .returned (.bool (p x)) ∧ Below W.heap.size W w'
def IdxAt {α : Type} (l : List α) (p : α → Bool) (e : Ending) : Prop := ∃ r : Int, e = .returned (.int .i64 r) ∧ decide (0 ≤ r) = l.any p
def encR (r : Ru) : Value := .agg #[.int .i64 r.f0, .int .i64 r.f1, .int .i64 r.f2, .int .i64 r.f3, .int .u32 r.f4.f0, .int .u32 r.f4.f1, .int .i64 r.f5]
set_option maxHeartbeats 1000000 in
theorem idxfR_any (A : Option Addr) (c : Nat) (l : List Ru) (p : Ru → Bool) (g : Nat) (lb : Array Value) (eg : ∀ args w, (callFunc g args).run Try.prog w = .ok (.enter g args) w) (w : World)
    (hr : Kd.C k29 w A l.length l) (hl : l.length ≤ 9223372036854775807) (hp : PredB encR p g lb (fun x => x ∈ l) w) :
    Calls Try.prog 67 #[.slice A l.length c, .func (.func g) #[] lb] w fun e w' => IdxAt l p e ∧ Below w.heap.size w w' := by
  have HR := Aside0.mk hr
  clear hr
  go_enter Try.func67, Try.ntmps67
  go_wp2
  go_loopg [5, 8] l.length (fun gg _ s8 wr => ∃ kk : Nat, kk ≤ l.length ∧ l.length - kk ≤ gg ∧ s8 = .int .i64 kk ∧ Aside0 (Below w.heap.size w wr) ∧ Aside0 (∀ x, x ∈ l.take kk → p x = false))
  case atStart => exact ⟨0, Nat.zero_le _, by omega, rfl, ⟨Below.refl _ w⟩, ⟨fun x hx => by simp at hx⟩⟩
  case round =>
    obtain ⟨kk, hkk, hg, rfl, BW, A0⟩ := hrel
    by_cases hlt : kk < l.length
    · have hltz : (kk : Int) < (l.length : Int) := by omega
      obtain ⟨ad, e, x0, x1, x2, x3, x4, x5, x6⟩ := at_T29 (Kd.C_below HR.out BW.out) (kk : Int) (by omega) (by omega)
      cases e
      (try rw [Int.toNat_natCast] at x0)
      (try rw [Int.toNat_natCast] at x1); (try rw [Int.toNat_natCast] at x2); (try rw [Int.toNat_natCast] at x3); (try rw [Int.toNat_natCast] at x4); (try rw [Int.toNat_natCast] at x5); (try rw [Int.toNat_natCast] at x6)
      have HM := Aside0.mk (show rd_T29 l (kk : Int) ∈ l ∧ l.take (kk + 1) = l.take kk ++ [rd_T29 l (kk : Int)] from by
        unfold rd_T29
        rw [Int.toNat_natCast, List.getD_eq_getElem?_getD, List.getElem?_eq_getElem hlt]
        exact ⟨List.getElem_mem _, by rw [List.take_succ_eq_append_getElem hlt]; rfl⟩)
      have hcall := hp wr (rd_T29 l (kk : Int)) HM.out.1 BW.out
      clear hp
      generalize rd_T29 l (kk : Int) = y at *
      unfold encR at hcall
      cases hq : p y with
      | true =>
        rw [hq] at hcall
        have HQ := Aside0.mk hq
        clear hq
        go_wp2_with fail
        refine hcall.mono ?_
        rintro e w' ⟨rfl, hb'⟩
        clear hcall
        go_wp2_with fail
        go_ret
        exact ⟨⟨_, rfl, by
          have e1 : l.any p = true := List.any_eq_true.2 ⟨y, HM.out.1, HQ.out⟩
          rw [e1]; simp⟩, BW.out.trans (hb'.mono BW.out.size)⟩
      | false =>
        rw [hq] at hcall
        have HQ := Aside0.mk hq
        clear hq
        go_wp2_with fail
        refine hcall.mono ?_
        rintro e w' ⟨rfl, hb'⟩
        clear hcall
        go_wp2_with fail
        go_roundg (l.length - (kk + 1))
        case measure => omega
        case rel =>
          refine ⟨kk + 1, by omega, by omega, by go_num, ⟨BW.out.trans (hb'.mono BW.out.size)⟩, ⟨fun x hx => ?_⟩⟩
          rw [HM.out.2, List.mem_append, List.mem_singleton] at hx
          rcases hx with hx | rfl
          · exact A0.out x hx
          · exact HQ.out
    · have hltz : ¬ (kk : Int) < (l.length : Int) := by omega
      obtain rfl : kk = l.length := by omega
      go_wp2
      go_ret
      exact ⟨⟨_, rfl, by
        have e1 : l.any p = false := by
          rw [List.any_eq_false]
          intro x hx
          rw [A0.out x (by rw [List.take_length]; exact hx)]; simp
        rw [e1]; simp⟩, BW.out⟩
set_option maxHeartbeats 1000000 in
theorem cfR_any (A : Option Addr) (c : Nat) (l : List Ru) (p : Ru → Bool) (g : Nat) (lb : Array Value) (eg : ∀ args w, (callFunc g args).run Try.prog w = .ok (.enter g args) w) (w : World)
    (hr : Kd.C k29 w A l.length l) (hl : l.length ≤ 9223372036854775807) (hp : PredB encR p g lb (fun x => x ∈ l) w) :
    Calls Try.prog 61 #[.slice A l.length c, .func (.func g) #[] lb] w fun e w' => e = .returned (.bool (l.any p)) ∧ Below w.heap.size w w' := by
  have h := idxfR_any A c l p g lb eg w hr hl hp
  generalize hq : l.any p = q
  have HQ := Aside0.mk hq
  clear hq hp hr
  go_enter Try.func61, Try.ntmps61
  go_wp2_with fail
  refine h.mono ?_
  rintro e w' ⟨⟨r, rfl, hd⟩, hb⟩
  rw [HQ.out] at hd
  have HD := Aside0.mk hd
  clear hd h
  go_wp2_with fail
  go_ret
  exact ⟨by rw [← HD.out]; rfl, hb⟩
theorem fpred (l : List Ru) (hl : ∀ x ∈ l, okRu x) (w : World) : PredB encR outR 62 #[] (fun x => x ∈ l) w := by
  intro W x hx hW
  unfold outR
  have C1 := Aside0.mk (fun V => nums_any x (hl x hx) V)
  generalize hq : (allIn 4294967295 (numsR x)) = q
  have HQ := Aside0.mk hq
  have HL : (numsR x).length = 7 := rfl
  generalize numsR x = ns at *
  clear hq hl hW hx
  unfold encR
  unfold ruleVals at C1
  go_enter Try.func62, Try.ntmps62
  go_wp2_with fail
  have HB := Aside0.mk ((Below.refl W.heap.size W).alloc (Nat.le_refl _) (.cells #[.int .i64 x.f0, .int .i64 x.f1, .int .i64 x.f2, .int .i64 x.f3, .int .u32 x.f4.f0, .int .u32 x.f4.f1, .int .i64 x.f5] 29))
  refine (C1.out _).mono ?_
  rintro e W1 ⟨⟨A, c, rfl, hc, hC⟩, hb⟩
  have HB1 := Aside0.mk (HB.out.trans (hb.mono HB.out.size))
  have hC2 := Aside0.mk (show Kd.C (Kd.int .i64) W1 A ns.length ns from by rw [HL]; exact hC)
  clear hC hb HB C1
  go_wp2_with fail
  have hw := within_any 4294967295 A c ns W1 hC2.out
  rw [HL, HQ.out] at hw
  refine hw.mono ?_
  rintro e W2 ⟨rfl, hb⟩
  have HB2 := Aside0.mk (HB1.out.trans (hb.mono HB1.out.size))
  clear hb hw
  go_wp2_with fail
  go_ret
  exact ⟨rfl, HB2.out⟩
theorem lit_D (l : List Int) (hl : l.length ≤ 1000) (W : World) : Kd.C (Kd.int .i64) (W.alloc (.cells (l.map (Value.int .i64)).toArray 3)) (some ⟨W.heap.size, 0, none⟩) l.length l := by
  refine Kd.C_of_reads (h1 := fun _ => rfl) (d := 0) ⟨rfl, by omega, fun hn => ⟨_, rfl, fun j hj => ?_⟩⟩
  have h := blk_cell (blk_new W (.cells (l.map (Value.int .i64)).toArray 3)) j
  have e : (⟨W.heap.size, 0, none⟩ : Addr).add j = ⟨W.heap.size, j, none⟩ := by simp only [Addr.add]; split <;> simp_all
  rw [e, h]
  rw [List.getElem?_toArray, List.getElem?_map, List.getElem?_eq_getElem hj, List.getD_eq_getElem?_getD, List.getElem?_eq_getElem hj]; rfl
set_option maxHeartbeats 4000000 in
theorem formed_flat (xe xn : Int) (ids : List Int) (rules : List Ru) (xh : Bool) (fr ad : Int) (dv : List Int) (ft od op : Int) (A2 : Option Addr) (c2 : Nat) (A3 : Option Addr) (c3 : Nat) (A7 : Option Addr) (c7 : Nat) (w : World) (h2 : Kd.C (Kd.int .i64) w A2 ids.length ids) (h3 : Kd.C k29 w A3 rules.length rules) (h7 : Kd.C (Kd.int .i64) w A7 dv.length dv) (hr : ∀ x ∈ rules, okRu x) :
    Calls Try.prog 45 #[.agg #[.int .i64 xe, .int .i64 xn, .slice A2 ids.length c2, .slice A3 rules.length c3, .bool xh, .int .i64 fr, .int .u32 ad, .slice A7 dv.length c7, .int .i64 ft, .int .i64 od, .int .i64 op]] w fun e w' => e = .returned (.bool (formedB ⟨xe, xn, ids, rules, xh, fr, ad, dv, ft, od, op⟩)) ∧ Below w.heap.size w w' := by
  have H2 := Aside0.mk h2
  have H3 := Aside0.mk h3
  have H7 := Aside0.mk h7
  have hm3 := Kd.C_max h3
  have CR := Aside0.mk (fun (W : World) (hb : Below w.heap.size w W) => cfR_any A3 c3 rules outR 62 #[] (enters' Try.func62 (by kernel_rfl) rfl) W (Kd.C_below h3 hb) hm3 (fpred rules hr W))
  clear h2 h3 h7 hm3 hr
  have FB := Aside0.mk (show formedB ⟨xe, xn, ids, rules, xh, fr, ad, dv, ft, od, op⟩ = (decide ((ids.length : Int) ≤ 100) && (decide ((rules.length : Int) ≤ 100) && (decide ((dv.length : Int) ≤ 100) && (allIn 65535 [xe] && (allIn 4294967295 [xn] && (allIn 4294967295 ids && (allIn 255 [fr, ft, od, op] && (allIn 255 dv && !rules.any outR)))))))) from rfl)
  generalize formedB ⟨xe, xn, ids, rules, xh, fr, ad, dv, ft, od, op⟩ = FR at *
  have C1 := Aside0.mk (show ∀ W : World, Calls Try.prog 39 #[.int .i64 65535, .slice (some ⟨W.heap.size, 0, none⟩) 1 1] (W.alloc (.cells #[.int .i64 xe] 3)) (fun e w' => e = .returned (.bool (allIn 65535 [xe])) ∧ Below (W.alloc (.cells #[.int .i64 xe] 3)).heap.size (W.alloc (.cells #[.int .i64 xe] 3)) w') from fun W => within_any 65535 (some ⟨W.heap.size, 0, none⟩) 1 [xe] (W.alloc (.cells #[.int .i64 xe] 3)) (lit_D [xe] (by simp) W))
  generalize allIn 65535 [xe] = a1 at *
  have C2 := Aside0.mk (show ∀ W : World, Calls Try.prog 39 #[.int .i64 4294967295, .slice (some ⟨W.heap.size, 0, none⟩) 1 1] (W.alloc (.cells #[.int .i64 xn] 3)) (fun e w' => e = .returned (.bool (allIn 4294967295 [xn])) ∧ Below (W.alloc (.cells #[.int .i64 xn] 3)).heap.size (W.alloc (.cells #[.int .i64 xn] 3)) w') from fun W => within_any 4294967295 (some ⟨W.heap.size, 0, none⟩) 1 [xn] (W.alloc (.cells #[.int .i64 xn] 3)) (lit_D [xn] (by simp) W))
  generalize allIn 4294967295 [xn] = a2 at *
  have C3 := Aside0.mk (fun (W : World) (hb : Below w.heap.size w W) => within_any 4294967295 A2 c2 ids W (Kd.C_below H2.out hb))
  generalize allIn 4294967295 ids = a3 at *
  have C4 := Aside0.mk (show ∀ W : World, Calls Try.prog 39 #[.int .i64 255, .slice (some ⟨W.heap.size, 0, none⟩) 4 4] (W.alloc (.cells #[.int .i64 fr, .int .i64 ft, .int .i64 od, .int .i64 op] 3)) (fun e w' => e = .returned (.bool (allIn 255 [fr, ft, od, op])) ∧ Below (W.alloc (.cells #[.int .i64 fr, .int .i64 ft, .int .i64 od, .int .i64 op] 3)).heap.size (W.alloc (.cells #[.int .i64 fr, .int .i64 ft, .int .i64 od, .int .i64 op] 3)) w') from fun W => within_any 255 (some ⟨W.heap.size, 0, none⟩) 4 [fr, ft, od, op] (W.alloc (.cells #[.int .i64 fr, .int .i64 ft, .int .i64 od, .int .i64 op] 3)) (lit_D [fr, ft, od, op] (by simp) W))
  generalize allIn 255 [fr, ft, od, op] = a4 at *
  have C5 := Aside0.mk (fun (W : World) (hb : Below w.heap.size w W) => within_any 255 A7 c7 dv W (Kd.C_below H7.out hb))
  generalize allIn 255 dv = a5 at *
  generalize rules.any outR = a6 at *
  have HB0 := Aside0.mk (Below.refl w.heap.size w)
  go_enter Try.func45, Try.ntmps45
  try dsimp only
  repeat ((fail_if_success (show Code.wp _ (Code.seq (Code.region 1 _ _) _) _ _ _)); (first | go_values | go_skip | go_guarded | go_step | go_upon | go_back))
  have k0 := blk_new w (.cells #[.int .i64 xe, .int .i64 xn, .slice A2 ids.length c2, .slice A3 rules.length c3, .bool xh, .int .i64 fr, .int .u32 ad, .slice A7 dv.length c7, .int .i64 ft, .int .i64 od, .int .i64 op] 50)
  have KB := Aside0.mk k0
  have y4 := blk_cell k0 4
  have y5 := blk_cell k0 5
  have y6 := blk_cell k0 6
  have y7 := blk_cell k0 7
  have y8 := blk_cell k0 8
  have y9 := blk_cell k0 9
  have y10 := blk_cell k0 10
  have HB1 := Aside0.mk ((Below.refl w.heap.size w).alloc (Nat.le_refl _) (.cells #[.int .i64 xe, .int .i64 xn, .slice A2 ids.length c2, .slice A3 rules.length c3, .bool xh, .int .i64 fr, .int .u32 ad, .slice A7 dv.length c7, .int .i64 ft, .int .i64 od, .int .i64 op] 50))
  clear k0
  generalize (w.alloc (.cells #[.int .i64 xe, .int .i64 xn, .slice A2 ids.length c2, .slice A3 rules.length c3, .bool xh, .int .i64 fr, .int .u32 ad, .slice A7 dv.length c7, .int .i64 ft, .int .i64 od, .int .i64 op] 50)) = W1 at *
  go_wp2_with fail
  go_cut [3, 4] from 6 (fun v3 v4 W => ∃ b3 b4, v3 = .pointer (some ⟨b3, 0, none⟩) ∧ v4 = .pointer (some ⟨b4, 0, none⟩) ∧ Aside0 (W.heap[b3]? = some (.cells #[.bool xh, .int .i64 fr, .int .u32 ad, .slice A7 dv.length c7, .int .i64 ft, .int .i64 od, .int .i64 op] 48 (0, 0))) ∧ Aside0 (W.heap[b4]? = some (.cells #[.slice A7 dv.length c7, .int .i64 ft, .int .i64 od, .int .i64 op] 46 (0, 0))) ∧ Aside0 (Below W1.heap.size W1 W))
  case first =>
    go_region_held3 (fun w' => w'.cell? ⟨w.heap.size, 4, none⟩ = some (.bool xh) ∧ w'.cell? ⟨w.heap.size, 5, none⟩ = some (.int .i64 fr) ∧ w'.cell? ⟨w.heap.size, 6, none⟩ = some (.int .u32 ad) ∧ w'.cell? ⟨w.heap.size, 7, none⟩ = some (.slice A7 dv.length c7) ∧ w'.cell? ⟨w.heap.size, 8, none⟩ = some (.int .i64 ft) ∧ w'.cell? ⟨w.heap.size, 9, none⟩ = some (.int .i64 od) ∧ w'.cell? ⟨w.heap.size, 10, none⟩ = some (.int .i64 op)) (first | assumption | go_keep) (fail)
    all_goals (go_wp2_with fail; go_meet; case rel => first
      | exact ⟨_, _, rfl, rfl, ⟨blk_below (blk_new W1 (.cells #[.bool xh, .int .i64 fr, .int .u32 ad, .slice A7 dv.length c7, .int .i64 ft, .int .i64 od, .int .i64 op] 48)) (below_drew ((Below.refl _ (W1.alloc (.cells #[.bool xh, .int .i64 fr, .int .u32 ad, .slice A7 dv.length c7, .int .i64 ft, .int .i64 od, .int .i64 op] 48))).alloc (Nat.le_refl _) (.cells #[.slice A7 dv.length c7, .int .i64 ft, .int .i64 od, .int .i64 op] 46)))⟩, ⟨by have := blk_new (W1.alloc (.cells #[.bool xh, .int .i64 fr, .int .u32 ad, .slice A7 dv.length c7, .int .i64 ft, .int .i64 od, .int .i64 op] 48)) (.cells #[.slice A7 dv.length c7, .int .i64 ft, .int .i64 od, .int .i64 op] 46); rw [World.size_alloc] at this; exact this⟩, ⟨below_drew (((Below.refl _ _).alloc (Nat.le_refl _) _).alloc (by simp) _)⟩⟩
      | exact ⟨_, _, rfl, rfl, ⟨by have := blk_new (W1.alloc (.cells #[.slice A7 dv.length c7, .int .i64 ft, .int .i64 od, .int .i64 op] 46)) (.cells #[.bool xh, .int .i64 fr, .int .u32 ad, .slice A7 dv.length c7, .int .i64 ft, .int .i64 od, .int .i64 op] 48); rw [World.size_alloc] at this; exact this⟩, ⟨blk_below (blk_new W1 (.cells #[.slice A7 dv.length c7, .int .i64 ft, .int .i64 od, .int .i64 op] 46)) (below_drew ((Below.refl _ (W1.alloc (.cells #[.slice A7 dv.length c7, .int .i64 ft, .int .i64 od, .int .i64 op] 46))).alloc (Nat.le_refl _) (.cells #[.bool xh, .int .i64 fr, .int .u32 ad, .slice A7 dv.length c7, .int .i64 ft, .int .i64 od, .int .i64 op] 48)))⟩, ⟨below_drew (((Below.refl _ _).alloc (Nat.le_refl _) _).alloc (by simp) _)⟩⟩)
  case rest =>
  obtain ⟨b3, b4, rfl, rfl, K3, K4, HW⟩ := hcut
  clear y4 y5 y6 y7 y8 y9 y10
  have KK := Aside0.mk (blk_below KB.out HW.out)
  have HBW := Aside0.mk (HB1.out.trans (HW.out.mono HB1.out.size))
  clear HB0 HB1 HW KB
  rename_i wc _
  generalize wc = W2 at *
  have x0 := blk_cell KK.out 0
  have x1 := blk_cell KK.out 1
  have x2 := blk_cell KK.out 2
  have x3 := blk_cell KK.out 3
  have x31 := blk_cell K3.out 1
  have x40 := blk_cell K4.out 0
  have x41 := blk_cell K4.out 1
  have x42 := blk_cell K4.out 2
  have x43 := blk_cell K4.out 3
  by_cases s1 : (ids.length : Int) ≤ 100
  case neg =>
    go_wp2_with fail
    go_ret
    exact ⟨by rw [FB.out]; first | (simp [s1]; done) | (simp [s1]; intros; omega), HBW.out⟩
  by_cases s2 : (rules.length : Int) ≤ 100
  case neg =>
    go_wp2_with fail
    go_ret
    exact ⟨by rw [FB.out]; first | (simp [s2]; done) | (simp [s2]; intros; omega), HBW.out⟩
  by_cases s3 : (dv.length : Int) ≤ 100
  case neg =>
    go_wp2_with fail
    go_ret
    exact ⟨by rw [FB.out]; first | (simp [s3]; done) | (simp [s3]; intros; omega), HBW.out⟩
  go_wp2_with fail
  refine (C1.out _).mono ?_
  rintro e W3 ⟨rfl, hb⟩
  have hb2 := ((Below.refl W2.heap.size W2).alloc (Nat.le_refl _) (.cells #[.int .i64 xe] 3)).trans (hb.mono (by simp))
  replace KK := Aside0.mk (blk_below KK.out hb2)
  replace K3 := Aside0.mk (blk_below K3.out hb2)
  replace K4 := Aside0.mk (blk_below K4.out hb2)
  replace HBW := Aside0.mk (HBW.out.trans (hb2.mono HBW.out.size))
  clear hb hb2 C1 x0 x1 x2 x3 x31 x40 x41 x42 x43
  have x0 := blk_cell KK.out 0
  have x1 := blk_cell KK.out 1
  have x2 := blk_cell KK.out 2
  have x3 := blk_cell KK.out 3
  have x31 := blk_cell K3.out 1
  have x40 := blk_cell K4.out 0
  have x41 := blk_cell K4.out 1
  have x42 := blk_cell K4.out 2
  have x43 := blk_cell K4.out 3
  cases a1 with
  | false =>
    go_wp2_with fail
    go_ret
    exact ⟨by rw [FB.out]; first | (simp [s1, s2, s3]; done) | (simp [s1, s2, s3]; intros; omega), HBW.out⟩
  | true =>
    go_wp2_with fail
    refine (C2.out _).mono ?_
    rintro e W4 ⟨rfl, hb⟩
    have hb2 := ((Below.refl W3.heap.size W3).alloc (Nat.le_refl _) (.cells #[.int .i64 xn] 3)).trans (hb.mono (by simp))
    replace KK := Aside0.mk (blk_below KK.out hb2)
    replace K3 := Aside0.mk (blk_below K3.out hb2)
    replace K4 := Aside0.mk (blk_below K4.out hb2)
    replace HBW := Aside0.mk (HBW.out.trans (hb2.mono HBW.out.size))
    clear hb hb2 C2 x0 x1 x2 x3 x31 x40 x41 x42 x43
    have x0 := blk_cell KK.out 0
    have x1 := blk_cell KK.out 1
    have x2 := blk_cell KK.out 2
    have x3 := blk_cell KK.out 3
    have x31 := blk_cell K3.out 1
    have x40 := blk_cell K4.out 0
    have x41 := blk_cell K4.out 1
    have x42 := blk_cell K4.out 2
    have x43 := blk_cell K4.out 3
    cases a2 with
    | false =>
      go_wp2_with fail
      go_ret
      exact ⟨by rw [FB.out]; first | (simp [s1, s2, s3]; done) | (simp [s1, s2, s3]; intros; omega), HBW.out⟩
    | true =>
      go_wp2_with fail
      refine (C3.out _ HBW.out).mono ?_
      rintro e W5 ⟨rfl, hb2⟩
      replace KK := Aside0.mk (blk_below KK.out hb2)
      replace K3 := Aside0.mk (blk_below K3.out hb2)
      replace K4 := Aside0.mk (blk_below K4.out hb2)
      replace HBW := Aside0.mk (HBW.out.trans (hb2.mono HBW.out.size))
      clear hb2 C3 x0 x1 x2 x3 x31 x40 x41 x42 x43
      have x0 := blk_cell KK.out 0
      have x1 := blk_cell KK.out 1
      have x2 := blk_cell KK.out 2
      have x3 := blk_cell KK.out 3
      have x31 := blk_cell K3.out 1
      have x40 := blk_cell K4.out 0
      have x41 := blk_cell K4.out 1
      have x42 := blk_cell K4.out 2
      have x43 := blk_cell K4.out 3
      cases a3 with
      | false =>
        go_wp2_with fail
        go_ret
        exact ⟨by rw [FB.out]; first | (simp [s1, s2, s3]; done) | (simp [s1, s2, s3]; intros; omega), HBW.out⟩
      | true =>
        go_wp2_with fail
        refine (C4.out _).mono ?_
        rintro e W6 ⟨rfl, hb⟩
        have hb2 := ((Below.refl W5.heap.size W5).alloc (Nat.le_refl _) (.cells #[.int .i64 fr, .int .i64 ft, .int .i64 od, .int .i64 op] 3)).trans (hb.mono (by simp))
        replace KK := Aside0.mk (blk_below KK.out hb2)
        replace K3 := Aside0.mk (blk_below K3.out hb2)
        replace K4 := Aside0.mk (blk_below K4.out hb2)
        replace HBW := Aside0.mk (HBW.out.trans (hb2.mono HBW.out.size))
        clear hb hb2 C4 x0 x1 x2 x3 x31 x40 x41 x42 x43
        have x0 := blk_cell KK.out 0
        have x1 := blk_cell KK.out 1
        have x2 := blk_cell KK.out 2
        have x3 := blk_cell KK.out 3
        have x31 := blk_cell K3.out 1
        have x40 := blk_cell K4.out 0
        have x41 := blk_cell K4.out 1
        have x42 := blk_cell K4.out 2
        have x43 := blk_cell K4.out 3
        cases a4 with
        | false =>
          go_wp2_with fail
          go_ret
          exact ⟨by rw [FB.out]; first | (simp [s1, s2, s3]; done) | (simp [s1, s2, s3]; intros; omega), HBW.out⟩
        | true =>
          go_wp2_with fail
          refine (C5.out _ HBW.out).mono ?_
          rintro e W7 ⟨rfl, hb2⟩
          replace KK := Aside0.mk (blk_below KK.out hb2)
          replace K3 := Aside0.mk (blk_below K3.out hb2)
          replace K4 := Aside0.mk (blk_below K4.out hb2)
          replace HBW := Aside0.mk (HBW.out.trans (hb2.mono HBW.out.size))
          clear hb2 C5 x0 x1 x2 x3 x31 x40 x41 x42 x43
          have x0 := blk_cell KK.out 0
          have x1 := blk_cell KK.out 1
          have x2 := blk_cell KK.out 2
          have x3 := blk_cell KK.out 3
          have x31 := blk_cell K3.out 1
          have x40 := blk_cell K4.out 0
          have x41 := blk_cell K4.out 1
          have x42 := blk_cell K4.out 2
          have x43 := blk_cell K4.out 3
          cases a5 with
          | false =>
            go_wp2_with fail
            go_ret
            exact ⟨by rw [FB.out]; first | (simp [s1, s2, s3]; done) | (simp [s1, s2, s3]; intros; omega), HBW.out⟩
          | true =>
            go_wp2_with fail
            refine (CR.out _ HBW.out).mono ?_
            rintro e W8 ⟨rfl, hb2⟩
            replace HBW := Aside0.mk (HBW.out.trans (hb2.mono HBW.out.size))
            clear hb2 CR x0 x1 x2 x3 x31 x40 x41 x42 x43
            cases a6 with
            | false =>
              go_wp2_with fail
              go_ret
              exact ⟨by rw [FB.out]; first | (simp [s1, s2, s3]; done) | (simp [s1, s2, s3]; intros; omega), HBW.out⟩
            | true =>
              go_wp2_with fail
              go_ret
              exact ⟨by rw [FB.out]; first | (simp [s1, s2, s3]; done) | (simp [s1, s2, s3]; intros; omega), HBW.out⟩
end Go.Proofs.Ytpaknjmcjblahaa.H
