/- The line: before, Capacity. Conditions: a valid description, minutes from 0 to 10,000,000. -/
import Derived.Test.YtnddahajfcmkiaaNf
namespace Go.Proofs.Ytnddahajfcmkiaa
set_option linter.unusedSimpArgs false
set_option linter.unusedVariables false
set_option linter.unnecessarySimpa false
open Go.RowKit

def partW (q : Int) : List Wn → Int
  | [] => 0
  | x :: ws => max 0 (min q x.hi - x.lo) + partW q ws
def wholeW : List Wn → Int
  | [] => 0
  | x :: ws => (x.hi - x.lo) + wholeW ws
def beforeC (c : Cfg) (m : Int) : Int := partW (splitR c.period m) c.ws + (if 0 < splitB c.period m then splitB c.period m / c.period * wholeW c.ws else 0)
theorem partW_snoc (q : Int) : ∀ (ws : List Wn) (k : Nat) (hk : k < ws.length), partW q (ws.take (k + 1)) = partW q (ws.take k) + max 0 (min q ws[k].hi - ws[k].lo)
  | x :: ws, 0, hk => by simp [partW]
  | x :: ws, k + 1, hk => by
    have := partW_snoc q ws k (by simpa using hk)
    simp only [List.take_succ_cons, partW, List.getElem_cons_succ] at this ⊢
    omega
theorem wholeW_snoc : ∀ (ws : List Wn) (k : Nat) (hk : k < ws.length), wholeW (ws.take (k + 1)) = wholeW (ws.take k) + (ws[k].hi - ws[k].lo)
  | x :: ws, 0, hk => by simp [wholeW]
  | x :: ws, k + 1, hk => by
    have := wholeW_snoc ws k (by simpa using hk)
    simp only [List.take_succ_cons, wholeW, List.getElem_cons_succ] at this ⊢
    omega
theorem parts_bd {q most : Int} (hq : 0 ≤ q) : ∀ {ws : List Wn} {last : Int}, SrtW last ws → (∀ x ∈ ws, x.hi ≤ most) → last ≤ most → 0 ≤ partW q ws ∧ partW q ws ≤ wholeW ws ∧ wholeW ws ≤ most - last
  | [], last, _, _, hl => by simp only [partW, wholeW]; omega
  | x :: ws, last, ⟨h1, h2, h3⟩, hm, hl => by
    have hx := hm x (by simp)
    have ih := parts_bd hq h3 (fun y hy => hm y (by simp [hy])) hx
    simp only [partW, wholeW]
    omega
theorem SrtW.take : ∀ {ws : List Wn} {last : Int} (k : Nat), SrtW last ws → SrtW last (ws.take k)
  | [], _, _, _ => by simp [SrtW]
  | x :: ws, last, 0, _ => trivial
  | x :: ws, last, k + 1, ⟨h1, h2, h3⟩ => ⟨h1, h2, h3.take k⟩
set_option maxRecDepth 20000 in
set_option maxHeartbeats 4000000 in
theorem before_walk (r d p m bs q : Int) (ws : List Wn) (g cap : Nat) (A : Option Addr) (w : World) (hr : Rd w g 2 A ws.length (ws.flatMap winc)) (hl : ws.length ≤ 32) (hp0 : 0 ≤ p) (hp1 : p ≤ 10000000) (hm0 : 0 ≤ m) (hm1 : m ≤ 10000000)
    (hs : SrtW 0 ws) (hall : ∀ x ∈ ws, 0 ≤ x.lo ∧ x.lo < x.hi ∧ x.hi ≤ 10000000) (hmost : p ≠ 0 → ∀ x ∈ ws, x.hi ≤ p) (hbs : bs = splitB p m) (hq : q = splitR p m) (res : Int) (hres : res = partW q ws + (if 0 < bs then bs / p * wholeW ws else 0)) :
    Calls Try.prog 55 #[.agg #[.int .i64 r, .int .i64 d, .int .i64 p, .slice A ws.length cap], .int .i64 m] w fun e w' => e = .returned (.int .i64 res) ∧ Below w.heap.size w w' := by
  have HR := Lib.hid hr
  have HALL := Lib.hid hall
  have HS := Lib.hid hs
  have HRES := Lib.hid hres
  have HMOST := Lib.hid hmost
  have hbz : 0 < bs → 0 < p := fun h => by
    rcases Int.lt_or_eq_of_le hp0 with h1 | h1
    · exact h1
    · rw [hbs, ← h1] at h; simp [splitB] at h
  have HBZ := Lib.hid hbz
  have hb := bnew w (.cells #[.int .i64 r, .int .i64 d, .int .i64 p, .slice A ws.length cap] 35)
  have HB := Lib.hid hb
  have HP := Lib.hid (Blk.new w 35 #[.int .i64 r, .int .i64 d, .int .i64 p, .slice A ws.length cap])
  have HH := Lib.hid (And.intro hp0 (And.intro hm0 (show m ≤ 9223372036854775807 by omega)))
  obtain ⟨k1, k2, k3, k4⟩ := split_bd hp0 hm0
  rw [← hbs] at k1 k2
  rw [← hq] at k3 k4
  have HBS := Lib.hid hbs
  have HQ := Lib.hid hq
  have kb : bs ≤ 10000000 := by omega
  have kq : q ≤ 10000000 := by omega
  clear hr hb hbs hq hres hall hs hm0 hm1 k2 k4 hmost hbz
  go_enter Try.func55, Try.ntmps55
  go_wp2_with (first
    | ((with_reducible refine at_dst 12 ?_); (refine wpList_load_cells rfl 35 _ rfl w.heap.size 0 [.int .i64 r, .int .i64 d, .int .i64 p, .slice A ws.length cap] rfl _ Try.underlying35 rfl info35 (fun j u hu => ?_) ?_; (rw [Nat.zero_add, HP.out.cell, List.getElem?_toArray]; exact hu)))
    | (go_at_call 60; (refine (split_any r d p m ws.length cap _ _ HH.out.1 HH.out.2.1 HH.out.2.2).mono ?_; rintro e y1 ⟨he, hb1⟩; rw [← HBS.out, ← HQ.out] at he; subst he; have HB3 := Lib.hid (HB.out.trans' hb1); have HP3 := Lib.hid (HP.out.below hb1); have hc3 := HP3.out.cell 3; clear hb1)))
  clear hc3
  go_loopw [7, 8, 20] (fun hv pv kv wr => ∃ k : Nat, k ≤ ws.length ∧ hv = .int .i64 (wholeW (ws.take k)) ∧ pv = .int .i64 (partW q (ws.take k)) ∧ kv = .int .i64 k ∧ Hid (Below y1.heap.size y1 wr)) (fun _ _ kv _ => ws.length - (intOf kv).toNat)
  case atStart => exact ⟨0, Nat.zero_le _, rfl, rfl, rfl, Lib.hid (Below.refl _ _)⟩
  case round =>
    obtain ⟨k, hk, rfl, rfl, rfl, HBR⟩ := hrel
    have HB4 := Lib.hid (HB3.out.trans' HBR.out)
    obtain ⟨wk, hwk⟩ : ∃ x, x = wholeW (ws.take k) := ⟨_, rfl⟩
    obtain ⟨pk, hpk⟩ : ∃ x, x = partW q (ws.take k) := ⟨_, rfl⟩
    have hb0 := parts_bd (q := q) (most := 10000000) (by omega) (HS.out.take k) (fun x hx => (HALL.out x (List.mem_of_mem_take hx)).2.2) (by omega)
    rw [← hwk, ← hpk] at hb0 ⊢
    have HWK := Lib.hid hwk
    have HPK := Lib.hid hpk
    obtain ⟨pb0, pb1, pb2⟩ := hb0
    clear hwk hpk
    by_cases hlt : k < ws.length
    · obtain ⟨hg, off, rfl, hc⟩ := (HR.out.below HB4.out).elem winc_len hlt rfl
      have HC0 := Lib.hid hc
      obtain ⟨b1, b2, b3⟩ := HALL.out ws[k] (List.getElem_mem hlt)
      have hb1 := parts_bd (q := q) (most := 10000000) (by omega) (HS.out.take (k + 1)) (fun x hx => (HALL.out x (List.mem_of_mem_take hx)).2.2) (by omega)
      have hsn := partW_snoc q ws k hlt
      have hsw := wholeW_snoc ws k hlt
      rw [← HWK.out] at hsw
      rw [← HPK.out] at hsn
      obtain ⟨lo, hlo⟩ : ∃ lo, lo = ws[k].lo := ⟨_, rfl⟩
      obtain ⟨hi, hhi⟩ : ∃ hi, hi = ws[k].hi := ⟨_, rfl⟩
      have hwc : winc ws[k] = [.int .i64 lo, .int .i64 hi] := by rw [hlo, hhi]; rfl
      rw [← hlo, ← hhi] at hsn hsw
      rw [← hlo] at b1
      rw [← hlo, ← hhi] at b2
      rw [← hhi] at b3
      have HWC := Lib.hid hwc
      have HSN := Lib.hid hsn
      have HSW := Lib.hid hsw
      have hwb : wk + (hi - lo) ≤ 10000000 := by omega
      clear hc hwc hlo hhi hb1 hsn hsw
      rcases (by omega : q ≤ lo ∨ (lo < q ∧ q ≤ hi) ∨ hi < q) with hq1 | ⟨hq1, hq2⟩ | hq1
      · have HAD := Lib.hid (show max 0 (min q hi - lo) = 0 by omega)
        go_wp2_with (first
          | ((with_reducible refine at_dst 23 ?_); refine wpList_load_cells rfl 62 _ rfl g (off + k * 2) (winc ws[k]) rfl _ Try.underlying62 rfl size62 (fun j u hu => HC0.out j u hu) ?_; rw [HWC.out]))
        go_roundw
        case rel => exact ⟨k + 1, by omega, by rw [HSW.out] <;> go_num, by rw [HSN.out, HAD.out] <;> go_num, by go_num, Lib.hid (HBR.out.alloc HBR.out.size _)⟩
        case measure => simp [intOf]; omega
      · have HAD := Lib.hid (show max 0 (min q hi - lo) = q - lo by omega)
        go_wp2_with (first
          | ((with_reducible refine at_dst 23 ?_); refine wpList_load_cells rfl 62 _ rfl g (off + k * 2) (winc ws[k]) rfl _ Try.underlying62 rfl size62 (fun j u hu => HC0.out j u hu) ?_; rw [HWC.out]))
        go_roundw
        case rel => exact ⟨k + 1, by omega, by rw [HSW.out] <;> go_num, by rw [HSN.out, HAD.out] <;> go_num, by go_num, Lib.hid (HBR.out.alloc HBR.out.size _)⟩
        case measure => simp [intOf]; omega
      · have HAD := Lib.hid (show max 0 (min q hi - lo) = hi - lo by omega)
        go_wp2_with (first
          | ((with_reducible refine at_dst 23 ?_); refine wpList_load_cells rfl 62 _ rfl g (off + k * 2) (winc ws[k]) rfl _ Try.underlying62 rfl size62 (fun j u hu => HC0.out j u hu) ?_; rw [HWC.out]))
        go_roundw
        case rel => exact ⟨k + 1, by omega, by rw [HSW.out] <;> go_num, by rw [HSN.out, HAD.out] <;> go_num, by go_num, Lib.hid (HBR.out.alloc HBR.out.size _)⟩
        case measure => simp [intOf]; omega
    · obtain rfl : k = ws.length := by omega
      have hc2 : wr.cell? ⟨w.heap.size, 2, none⟩ = some (.int .i64 p) := (HP3.out.below HBR.out).cell 2
      have hw1 := HWK.out
      have hp1 := HPK.out
      rw [List.take_length] at hw1 hp1
      have HW1 := Lib.hid hw1
      have HP1 := Lib.hid hp1
      clear hw1 hp1
      by_cases hbp : 0 < bs
      · have hpp := HBZ.out hbp
        have hwp := (parts_bd (q := q) (most := p) (by omega) HS.out (HMOST.out (by omega)) (by omega)).2.2
        rw [← HW1.out] at hwp
        have hd0 : 0 ≤ bs / p := Int.ediv_nonneg k1 hp0
        have hd1 : bs / p * p ≤ bs := Int.ediv_mul_le _ (by omega)
        have ht0 : 0 ≤ bs / p * wk := Int.mul_nonneg hd0 (by omega)
        have ht1 : bs / p * wk ≤ bs := Int.le_trans (Int.mul_le_mul_of_nonneg_left (by omega) hd0) hd1
        have hd2 : bs / p ≤ bs := Int.ediv_le_self _ k1
        obtain ⟨t, ht⟩ : ∃ t, t = bs / p * wk := ⟨_, rfl⟩
        rw [← ht] at ht0 ht1
        have hw : IntKind.i64.wrap (bs / p * wk) = t := by rw [← ht]; exact IntWalk.i64_in _ (by omega)
        have hqt : bs.tdiv p = bs / p := Int.tdiv_eq_ediv_of_nonneg k1
        have HE : Hid (res = pk + t) := Lib.hid (by rw [HRES.out, if_pos hbp, ← HP1.out, ← HW1.out, ht])
        clear hwp hd1 ht
        have hpt : pk + t ≤ 20000000 := by omega
        go_wp2
        go_ret
        exact ⟨by rw [HE.out]; rfl, HB4.out⟩
      · have HE : Hid (res = pk) := Lib.hid (by rw [HRES.out, if_neg hbp, ← HP1.out, Int.add_zero])
        go_wp2
        go_ret
        exact ⟨by rw [HE.out]; rfl, HB4.out⟩
theorem before_any (c : Cfg) (m : Int) (g cap : Nat) (A : Option Addr) (w : World) (hr : Rd w g 2 A c.ws.length (c.ws.flatMap winc)) (hok : chkC c = 0) (hm0 : 0 ≤ m) (hm1 : m ≤ 10000000) :
    Calls Try.prog 55 #[.agg (cfgc c A cap).toArray, .int .i64 m] w fun e w' => e = .returned (.int .i64 (beforeC c m)) ∧ Below w.heap.size w w' :=
  before_walk c.rate c.delay c.period m _ _ c.ws g cap A w hr (chk_ok hok).2.1 (chk_per hok).1 (chk_per hok).2 hm0 hm1 (SrtW.of_chk (chk_ok hok).2.2) (chk_all hok)
    (fun h x hx => by have := chkW_all (chk_ok hok).2.2 x hx; have e : mostC c.period = c.period := by simp [mostC, h]
                      omega) rfl rfl _ rfl
theorem before_bd {c : Cfg} {m : Int} (hok : chkC c = 0) (hm0 : 0 ≤ m) (hm1 : m ≤ 10000000) : 0 ≤ beforeC c m ∧ beforeC c m ≤ 20000000 := by
  have hp := chk_per hok
  obtain ⟨k1, k2, k3, k4⟩ := split_bd hp.1 hm0
  have hall := chkW_all (chk_ok hok).2.2
  have hs := SrtW.of_chk (chk_ok hok).2.2
  have hb := parts_bd (q := splitR c.period m) (most := mostC c.period) k3 hs (fun x hx => (hall x hx).2.2) (by unfold mostC; split <;> omega)
  have hm := mostC_le hp.2
  unfold beforeC
  by_cases h : 0 < splitB c.period m
  · rw [if_pos h]
    have hp0 : 0 < c.period := by
      rcases Int.lt_or_eq_of_le hp.1 with h1 | h1
      · exact h1
      · rw [← h1] at h; simp [splitB] at h
    have e : mostC c.period = c.period := by unfold mostC; rw [if_neg (by omega)]
    rw [e] at hb
    have hd0 : 0 ≤ splitB c.period m / c.period := Int.ediv_nonneg k1 hp.1
    have hd1 : splitB c.period m / c.period * c.period ≤ splitB c.period m := Int.ediv_mul_le _ (by omega)
    have ht0 : 0 ≤ splitB c.period m / c.period * wholeW c.ws := Int.mul_nonneg hd0 (by omega)
    have ht1 : splitB c.period m / c.period * wholeW c.ws ≤ splitB c.period m := Int.le_trans (Int.mul_le_mul_of_nonneg_left (by omega) hd0) hd1
    omega
  · rw [if_neg h]; omega
def badP (c : Cfg) (a b : Int) : Prop := a < 0 ∨ b < a ∨ 10000000 < b ∨ chkC c ≠ 0
set_option maxRecDepth 20000 in
set_option maxHeartbeats 2000000 in
theorem capacity_bad (c : Cfg) (a b : Int) (g cap : Nat) (A : Option Addr) (w : World) (hr : Rd w g 2 A c.ws.length (c.ws.flatMap winc)) (hl : c.ws.length ≤ maxLen) (hx : badP c a b) :
    Calls Try.prog 39 #[.agg (cfgc c A cap).toArray, .int .i64 a, .int .i64 b] w fun e w' => e = .returned (.int .i64 0) ∧ Below w.heap.size w w' := by
  have HR := Lib.hid hr
  have HP := Lib.hid (Blk.new w 35 (cfgc c A cap).toArray)
  have HB := Lib.hid (bnew w (.cells (cfgc c A cap).toArray 35))
  obtain ⟨K, hK⟩ : ∃ K, chkC c = K := ⟨_, rfl⟩
  unfold badP at hx
  rw [hK] at hx
  have HK := Lib.hid hK
  clear hr hK
  by_cases h1 : a < 0
  · clear hx
    go_enter Try.func39, Try.ntmps39
    go_wp2
    go_ret
    exact ⟨rfl, HB.out⟩
  by_cases h2 : b < a
  · clear hx
    go_enter Try.func39, Try.ntmps39
    go_wp2
    go_ret
    exact ⟨rfl, HB.out⟩
  by_cases h3 : 10000000 < b
  · clear hx
    go_enter Try.func39, Try.ntmps39
    go_wp2
    go_ret
    exact ⟨rfl, HB.out⟩
  have hk : K ≠ 0 := by omega
  have hkb : (K == 0) = false := by simpa using hk
  clear hx hk
  go_enter Try.func39, Try.ntmps39
  go_wp2_with (first
    | ((with_reducible refine at_dst 19 ?_); (refine wpList_wanted (by first | (simp [Region.wanted, yielded]; done) | (simp [Region.wanted, yielded]; omega)) fun _ hK => wp_load_cells 35 _ rfl w.heap.size 0 (cfgc c A cap) rfl _ Try.underlying35 rfl info35 (fun j u hu => by rw [Nat.zero_add, HP.out.cell, List.getElem?_toArray]; exact hu) (hK _ _ ?_)))
    | (go_at_call 33; (refine (check_any c g A cap _ (HR.out.below HB.out) hl).mono ?_; rintro e y1 ⟨he, hb1⟩; rw [HK.out] at he; subst he; have HB1 := Lib.hid (HB.out.trans' hb1); clear hb1)))
  go_ret
  exact ⟨rfl, HB1.out⟩
set_option maxRecDepth 20000 in
set_option maxHeartbeats 2000000 in
theorem capacity_ok (c : Cfg) (a b : Int) (g cap : Nat) (A : Option Addr) (w : World) (hr : Rd w g 2 A c.ws.length (c.ws.flatMap winc)) (hl : c.ws.length ≤ maxLen) (hok : chkC c = 0) (h0 : 0 ≤ a) (h1 : a ≤ b) (h2 : b ≤ 10000000) :
    Calls Try.prog 39 #[.agg (cfgc c A cap).toArray, .int .i64 a, .int .i64 b] w fun e w' => e = .returned (.int .i64 (c.rate * (beforeC c b - beforeC c a))) ∧ Below w.heap.size w w' := by
  have HR := Lib.hid hr
  have HP := Lib.hid (Blk.new w 35 (cfgc c A cap).toArray)
  have HB := Lib.hid (bnew w (.cells (cfgc c A cap).toArray 35))
  have HK := Lib.hid hok
  have h3 := before_bd hok h0 (by omega)
  have h4 := before_bd hok (show 0 ≤ b by omega) h2
  have h5 := chk_del hok
  have HAB := Lib.hid (And.intro h0 (And.intro (show a ≤ 10000000 by omega) (And.intro (show 0 ≤ b by omega) h2)))
  have HW1 : Hid (IntKind.i64.wrap (beforeC c b - beforeC c a) = beforeC c b - beforeC c a) := Lib.hid (IntWalk.i64_in _ (by omega))
  have HW2 : Hid (IntKind.i64.wrap (c.rate * (beforeC c b - beforeC c a)) = c.rate * (beforeC c b - beforeC c a)) := Lib.hid (IntWalk.i64_in _ (by
    obtain ⟨t, ht⟩ : ∃ t, t = beforeC c b - beforeC c a := ⟨_, rfl⟩
    rw [← ht]
    have ht1 : -20000000 ≤ t ∧ t ≤ 20000000 := by omega
    have e1 : c.rate * t ≤ c.rate * 20000000 := Int.mul_le_mul_of_nonneg_left (by omega) (by omega)
    have e2 : c.rate * (-20000000) ≤ c.rate * t := Int.mul_le_mul_of_nonneg_left (by omega) (by omega)
    omega))
  clear hr hok h3 h4 h5
  go_enter Try.func39, Try.ntmps39
  go_wp2_with (first
    | ((with_reducible refine at_dst 19 ?_); (refine wpList_wanted (by first | (simp [Region.wanted, yielded]; done) | (simp [Region.wanted, yielded]; omega)) fun _ hK => wp_load_cells 35 _ rfl w.heap.size 0 (cfgc c A cap) rfl _ Try.underlying35 rfl info35 (fun j u hu => by rw [Nat.zero_add, HP.out.cell, List.getElem?_toArray]; exact hu) (hK _ _ ?_)))
    | (go_at_call 33; (refine (check_any c g A cap _ (HR.out.below HB.out) hl).mono ?_; rintro e y1 ⟨he, hb1⟩; rw [HK.out] at he; subst he; have HB1 := Lib.hid (HB.out.trans' hb1); have HP1 := Lib.hid (HP.out.below hb1); clear hb1)))
  refine wp_region_seq (nt := 33) (by kernel_rfl) [0,1,2,3,4,5,6,7,8,9,10] [] Rb Rb.refl Rb.trans [(4, fun v _ => v = .int .i64 (beforeC c b)), (7, fun v _ => v = .int .i64 (beforeC c a))] (by kernel_rfl) (by simp) rfl (by kernel_rfl) (by simp) ⟨fun _ _ _ _ _ h => h, fun _ _ _ _ _ h => h, trivial⟩ ?_
  (refine' Sq.det (E := _) (b := _) (by rfl) (by rfl) (by rfl) (fun w' hR hf => ?_) ?_ ?_; rotate_left 2; (· (go_simp; first | done | with_reducible rfl)); (· (simp only [Act.put, List.setIfInBounds_toArray, List.set_cons_zero, List.set_cons_succ]; first | done | rfl)))
  (refine' Sq.det (E := _) (b := _) (by rfl) (by rfl) (by rfl) (fun w' hR hf => ?_) ?_ ?_; rotate_left 2; (· (have hc : w'.cell? ⟨w.heap.size, 0, none⟩ = some (.int .i64 c.rate) := (HP1.out.below (below_undrew hR)).cell 0; go_simp; first | done | with_reducible rfl)); (· (simp only [Act.put, List.setIfInBounds_toArray, List.set_cons_zero, List.set_cons_succ]; first | done | rfl)))
  (refine' Sq.det (E := _) (b := _) (by rfl) (by rfl) (by rfl) (fun w' hR hf => ?_) ?_ ?_; rotate_left 2; (· (refine exec_load_cells 35 _ w.heap.size 0 (cfgc c A cap) ?_ _ Try.underlying35 rfl info35 (fun j u hu => ?_); (· kernel_rfl); (rw [Nat.zero_add, (HP1.out.below (below_undrew hR)).cell, List.getElem?_toArray]; exact hu))); (· (simp only [Act.put, List.setIfInBounds_toArray, List.set_cons_zero, List.set_cons_succ]; first | done | rfl)))
  (refine' Sq.det (E := _) (b := _) (by rfl) (by rfl) (by rfl) (fun w' hR hf => ?_) ?_ ?_; rotate_left 2; (· (go_simp; first | done | with_reducible rfl)); (· (simp only [Act.put, List.setIfInBounds_toArray, List.set_cons_zero, List.set_cons_succ]; first | done | rfl)))
  (refine' Sq.any (f := _) (by rfl) (by rfl) (by rfl) (fun w' hR hf => ?_) (fun v => ?_) (fun v4 => ?_); (· (go_wp2_with (go_at_call 55; refine (before_any c b g cap A w' (HR.out.below (HB1.out.trans' (below_undrew hR))) HK.out HAB.out.2.2.1 HAB.out.2.2.2).mono ?_; rintro e w1 ⟨he, hb1⟩; subst he); exact hb1)); rotate_left 1; (· (simp only [Act.put, List.setIfInBounds_toArray, List.set_cons_zero, List.set_cons_succ]; first | done | rfl)))
  (refine' Sq.det (E := _) (b := _) (by rfl) (by rfl) (by rfl) (fun w' hR hf => ?_) ?_ ?_; rotate_left 2; (· (refine exec_load_cells 35 _ w.heap.size 0 (cfgc c A cap) ?_ _ Try.underlying35 rfl info35 (fun j u hu => ?_); (· kernel_rfl); (rw [Nat.zero_add, (HP1.out.below (below_undrew hR)).cell, List.getElem?_toArray]; exact hu))); (· (simp only [Act.put, List.setIfInBounds_toArray, List.set_cons_zero, List.set_cons_succ]; first | done | rfl)))
  (refine' Sq.det (E := _) (b := _) (by rfl) (by rfl) (by rfl) (fun w' hR hf => ?_) ?_ ?_; rotate_left 2; (· (go_simp; first | done | with_reducible rfl)); (· (simp only [Act.put, List.setIfInBounds_toArray, List.set_cons_zero, List.set_cons_succ]; first | done | rfl)))
  (refine' Sq.any (f := _) (by rfl) (by rfl) (by rfl) (fun w' hR hf => ?_) (fun v => ?_) (fun v7 => ?_); (· (go_wp2_with (go_at_call 55; refine (before_any c a g cap A w' (HR.out.below (HB1.out.trans' (below_undrew hR))) HK.out HAB.out.1 HAB.out.2.1).mono ?_; rintro e w1 ⟨he, hb1⟩; subst he); exact hb1)); rotate_left 1; (· (simp only [Act.put, List.setIfInBounds_toArray, List.set_cons_zero, List.set_cons_succ]; first | done | rfl)))
  (refine' Sq.det (E := _) (b := _) (by rfl) (by rfl) (by rfl) (fun w' hR hf => ?_) ?_ ?_; rotate_left 2; (· (obtain rfl : v4 = .int .i64 (beforeC c b) := hf 4 (by decide) _ rfl; obtain rfl : v7 = .int .i64 (beforeC c a) := hf 7 (by decide) _ rfl; have hc := HW1.out; go_simp; first | done | with_reducible rfl)); (· (simp only [Act.put, List.setIfInBounds_toArray, List.set_cons_zero, List.set_cons_succ]; first | done | rfl)))
  (refine' Sq.det (E := _) (b := _) (by rfl) (by rfl) (by rfl) (fun w' hR hf => ?_) ?_ ?_; rotate_left 2; (· (have hc := HW2.out; go_simp; first | done | with_reducible rfl)); (· (simp only [Act.put, List.setIfInBounds_toArray, List.set_cons_zero, List.set_cons_succ]; first | done | rfl)))
  (refine' Sq.det (E := _) (b := _) (by rfl) (by rfl) (by rfl) (fun w' hR hf => ?_) ?_ ?_; rotate_left 2; (· (go_simp; first | done | with_reducible rfl)); (· (simp only [Act.put, List.setIfInBounds_toArray, List.set_cons_zero, List.set_cons_succ]; first | done | rfl)))
  refine Sq.done fun y hR _ => ?_
  have HY := Lib.hid (HB1.out.trans' (below_undrew hR))
  clear hR
  go_wp2
  go_ret
  exact ⟨rfl, HY.out⟩
end Go.Proofs.Ytnddahajfcmkiaa
