/- The line: next. Conditions: a valid description, a minute from 0 to 2^40. -/
import Derived.Test.YtnddahajfcmkiaaLg
namespace Go.Proofs.Ytnddahajfcmkiaa
set_option linter.unusedSimpArgs false
set_option linter.unusedVariables false
set_option linter.unnecessarySimpa false
open Go.RowKit

def nextW (base rest : Int) : List Wn → Option Int
  | [] => none
  | x :: ws => if rest < x.hi then some (base + max rest x.lo) else nextW base rest ws
def nextC (c : Cfg) (m : Int) : Int × Bool :=
  match nextW (splitB c.period m) (splitR c.period m) c.ws with
  | some v => (v, true)
  | none => if c.period = 0 ∨ c.ws.length = 0 then (0, false) else (splitB c.period m + c.period + (c.ws.getD 0 default).lo, true)
theorem chkW_all {most : Int} : ∀ {ws : List Wn} {last : Int}, chkW most last ws = 0 → ∀ x ∈ ws, 0 ≤ x.lo ∧ x.lo < x.hi ∧ x.hi ≤ most
  | [], _, _, x, hx => by cases hx
  | y :: ws, last, h, x, hx => by
    unfold chkW at h
    split at h
    · cases h
    · rename_i hb
      split at h
      · cases h
      · rcases List.mem_cons.1 hx with rfl | hx
        · simp only [badW, not_or, Int.not_lt, Int.not_le] at hb
          omega
        · exact chkW_all h x hx
theorem mostC_le {p : Int} (h : p ≤ 10000000) : mostC p ≤ 10000000 := by unfold mostC; split <;> omega
theorem chk_all {c : Cfg} (h : chkC c = 0) : ∀ x ∈ c.ws, 0 ≤ x.lo ∧ x.lo < x.hi ∧ x.hi ≤ 10000000 := fun x hx => by
  have h1 := chkW_all (chk_ok h).2.2 x hx
  have h2 := mostC_le (chk_per h).2
  omega
theorem split_bd {p m : Int} (hp : 0 ≤ p) (hm : 0 ≤ m) : 0 ≤ splitB p m ∧ splitB p m ≤ m ∧ 0 ≤ splitR p m ∧ splitR p m ≤ m := by
  unfold splitB splitR
  split
  · omega
  · rename_i h
    have h2 : 0 ≤ m % p := Int.emod_nonneg _ h
    have h0 : m % p + p * (m / p) = m := Int.emod_add_mul_ediv m p
    have h1 : 0 ≤ m / p := Int.ediv_nonneg hm hp
    have h3 : 0 ≤ p * (m / p) := Int.mul_nonneg hp h1
    omega
theorem nextW_drop {base rest : Int} {ws : List Wn} {k : Nat} (hk : k < ws.length) : nextW base rest (ws.drop k) = if rest < ws[k].hi then some (base + max rest ws[k].lo) else nextW base rest (ws.drop (k + 1)) := by
  rw [List.drop_eq_getElem_cons hk]; rfl
def nextR (res : Option Int) (p bs : Int) (ws : List Wn) : Int × Bool :=
  match res with
  | some v => (v, true)
  | none => if p = 0 ∨ ws.length = 0 then (0, false) else (bs + p + (ws.getD 0 default).lo, true)
set_option maxRecDepth 20000 in
set_option maxHeartbeats 4000000 in
theorem next_walk (r d p m bs q : Int) (res : Option Int) (ws : List Wn) (g cap : Nat) (A : Option Addr) (w : World) (hr : Rd w g 2 A ws.length (ws.flatMap winc)) (hl : ws.length ≤ 32) (hp0 : 0 ≤ p) (hp1 : p ≤ 10000000) (hm0 : 0 ≤ m) (hm1 : m ≤ 1099511627776) (hall : ∀ x ∈ ws, 0 ≤ x.lo ∧ x.lo < x.hi ∧ x.hi ≤ 10000000)
    (hbs : bs = splitB p m) (hq : q = splitR p m) (hres : nextW bs q ws = res) :
    Calls Try.prog 54 #[.agg #[.int .i64 r, .int .i64 d, .int .i64 p, .slice A ws.length cap], .int .i64 m] w fun e w' => e = .returned (.tuple #[.int .i64 (nextR res p bs ws).1, .bool (nextR res p bs ws).2]) ∧ Below w.heap.size w w' := by
  have HR := Lib.hid hr
  have HALL := Lib.hid hall
  have HRES := Lib.hid hres
  have hb := bnew w (.cells #[.int .i64 r, .int .i64 d, .int .i64 p, .slice A ws.length cap] 35)
  have HB := Lib.hid hb
  have HP := Lib.hid (Blk.new w 35 #[.int .i64 r, .int .i64 d, .int .i64 p, .slice A ws.length cap])
  have HH := Lib.hid (And.intro hp0 (And.intro hm0 (show m ≤ 9223372036854775807 by omega)))
  obtain ⟨k1, k2, k3, k4⟩ := split_bd hp0 hm0
  rw [← hbs] at k1 k2
  rw [← hq] at k3 k4
  have HBS := Lib.hid hbs
  have HQ := Lib.hid hq
  have kb : bs ≤ 1099511627776 := by omega
  have kq : q ≤ 1099511627776 := by omega
  clear hr hb hbs hq hres hall hm0 hm1 k2 k4
  go_enter Try.func54, Try.ntmps54
  go_wp2_with (first
    | ((with_reducible refine at_dst 11 ?_); (refine wpList_load_cells rfl 35 _ rfl w.heap.size 0 [.int .i64 r, .int .i64 d, .int .i64 p, .slice A ws.length cap] rfl _ Try.underlying35 rfl info35 (fun j u hu => ?_) ?_; (rw [Nat.zero_add, HP.out.cell, List.getElem?_toArray]; exact hu)))
    | (go_at_call 60; (refine (split_any r d p m ws.length cap _ _ HH.out.1 HH.out.2.1 HH.out.2.2).mono ?_; rintro e y1 ⟨he, hb1⟩; rw [← HBS.out, ← HQ.out] at he; subst he; have HB3 := Lib.hid (HB.out.trans' hb1); have HP3 := Lib.hid (HP.out.below hb1); have hc3 := HP3.out.cell 3; clear hb1)))
  clear hc3
  go_loopw [19] (fun kv wr => ∃ k : Nat, k ≤ ws.length ∧ kv = .int .i64 k ∧ Hid (nextW bs q (ws.drop k) = res) ∧ Hid (Below y1.heap.size y1 wr)) (fun kv _ => ws.length - (intOf kv).toNat)
  case atStart => exact ⟨0, by omega, rfl, HRES, Lib.hid (Below.refl _ _)⟩
  case round =>
    obtain ⟨k, hk, rfl, HK, HBR⟩ := hrel
    have HB4 := Lib.hid (HB3.out.trans' HBR.out)
    by_cases hlt : k < ws.length
    · obtain ⟨hg, off, rfl, hc⟩ := (HR.out.below HB4.out).elem winc_len hlt rfl
      have HC0 := Lib.hid hc
      have hd := nextW_drop (base := bs) (rest := q) hlt
      rw [HK.out] at hd
      obtain ⟨b1, b2, b3⟩ := HALL.out ws[k] (List.getElem_mem hlt)
      obtain ⟨lo, hlo⟩ : ∃ lo, lo = ws[k].lo := ⟨_, rfl⟩
      obtain ⟨hi, hhi⟩ : ∃ hi, hi = ws[k].hi := ⟨_, rfl⟩
      have hwc : winc ws[k] = [.int .i64 lo, .int .i64 hi] := by rw [hlo, hhi]; rfl
      rw [← hlo, ← hhi] at hd
      rw [← hlo] at b1
      rw [← hlo, ← hhi] at b2
      rw [← hhi] at b3
      have HWC := Lib.hid hwc
      clear hc hwc hlo hhi
      by_cases hh : q < hi
      · rw [if_pos hh] at hd
        rcases (by omega : lo ≤ q ∨ q < lo) with hl1 | hl1
        · have e : max q lo = q := by omega
          rw [e] at hd
          have HD := Lib.hid hd
          clear hd e
          have hsum : bs + q ≤ 4000000000000 := by omega
          go_wp2_with (first
            | ((with_reducible refine at_dst 22 ?_); refine wpList_load_cells rfl 62 _ rfl g (off + k * 2) (winc ws[k]) rfl _ Try.underlying62 rfl size62 (fun j u hu => HC0.out j u hu) ?_; rw [HWC.out]))
          go_ret2
          exact ⟨by simp [nextR, HD.out], HB4.out.alloc HB4.out.size _⟩
        · have e : max q lo = lo := by omega
          rw [e] at hd
          have HD := Lib.hid hd
          clear hd e
          have hsum : bs + lo ≤ 4000000000000 := by omega
          go_wp2_with (first
            | ((with_reducible refine at_dst 22 ?_); refine wpList_load_cells rfl 62 _ rfl g (off + k * 2) (winc ws[k]) rfl _ Try.underlying62 rfl size62 (fun j u hu => HC0.out j u hu) ?_; rw [HWC.out]))
          go_ret2
          exact ⟨by simp [nextR, HD.out], HB4.out.alloc HB4.out.size _⟩
      · rw [if_neg hh] at hd
        have HD := Lib.hid hd
        clear hd
        go_wp2_with (first
          | ((with_reducible refine at_dst 22 ?_); refine wpList_load_cells rfl 62 _ rfl g (off + k * 2) (winc ws[k]) rfl _ Try.underlying62 rfl size62 (fun j u hu => HC0.out j u hu) ?_; rw [HWC.out]))
        go_roundw
        case rel => exact ⟨k + 1, by omega, by go_num, Lib.hid HD.out.symm, Lib.hid (HBR.out.alloc HBR.out.size _)⟩
        case measure => simp [intOf]; omega
    · obtain rfl : k = ws.length := by omega
      have hd := HK.out
      rw [List.drop_length] at hd
      have HD : Hid (res = none) := Lib.hid hd.symm
      clear hd
      have hc2 := (HP3.out.below HBR.out).cell 2
      have hc3 := (HP3.out.below HBR.out).cell 3
      by_cases hpz : p = 0
      · have HE : Hid (nextR res p bs ws = (0, false)) := Lib.hid (by simp [nextR, HD.out, hpz])
        subst hpz
        go_wp2
        go_ret2
        exact ⟨by rw [HE.out]; rfl, HB4.out⟩
      · by_cases hw0 : ws.length = 0
        · have HE : Hid (nextR res p bs ws = (0, false)) := Lib.hid (by simp [nextR, HD.out, hw0])
          go_wp2
          go_ret2
          exact ⟨by rw [HE.out]; rfl, HB4.out⟩
        · have hpos : 0 < ws.length := by omega
          have hpb : (p == 0) = false := by simp [hpz]
          have hwb : (((ws.length : Nat) : Int) == 0) = false := by simp; exact fun h => hw0 (by rw [h]; rfl)
          obtain ⟨x, hx⟩ : ∃ x, x = ws[0].lo := ⟨_, rfl⟩
          have hgd : ws.getD 0 default = ws[0] := by simp [hpos]
          have HE : Hid (nextR res p bs ws = (bs + p + x, true)) := Lib.hid (by simp only [nextR, HD.out, hpz, hw0, or_self, if_false, hgd, hx])
          obtain ⟨b1, b2, b3⟩ := HALL.out ws[0] (List.getElem_mem hpos)
          obtain ⟨hg, off, rfl, hc⟩ := (HR.out.below HB4.out).elem winc_len hpos rfl
          have hl0 := hc 0 (.int .i64 x) (by rw [hx]; rfl)
          simp only [Nat.zero_mul, Nat.add_zero] at hl0
          have HG := Lib.hid hg
          have HL0 := Lib.hid hl0
          have HP4 := Lib.hid (HP3.out.below HBR.out)
          have HW1 : Hid (IntKind.i64.wrap (bs + p) = bs + p) := Lib.hid (IntWalk.i64_in _ (by omega))
          have HW2 : Hid (IntKind.i64.wrap (bs + p + x) = bs + p + x) := Lib.hid (IntWalk.i64_in _ (by omega))
          clear hl0 hc hg hx hgd b1 b2 b3
          go_wp2
          clear hc2 hc3
          refine wp_region_seq (nt := 53) (by kernel_rfl) [0,1,2,3,4,5,6,7,8,9,10,11] [] Rb Rb.refl Rb.trans [] (by kernel_rfl) (by simp) rfl (by kernel_rfl) (by simp) trivial ?_
          (refine' Sq.det (E := _) (b := _) (by rfl) (by rfl) (by rfl) (fun w' hR hf => ?_) ?_ ?_; rotate_left 2; (· (go_simp; first | done | with_reducible rfl)); (· (simp only [Act.put, List.setIfInBounds_toArray, List.set_cons_zero, List.set_cons_succ]; first | done | rfl)))
          (refine' Sq.det (E := _) (b := _) (by rfl) (by rfl) (by rfl) (fun w' hR hf => ?_) ?_ ?_; rotate_left 2; (· (go_simp; first | done | with_reducible rfl)); (· (simp only [Act.put, List.setIfInBounds_toArray, List.set_cons_zero, List.set_cons_succ]; first | done | rfl)))
          (refine' Sq.det (E := _) (b := _) (by rfl) (by rfl) (by rfl) (fun w' hR hf => ?_) ?_ ?_; rotate_left 2; (· (have hc : w'.cell? ⟨w.heap.size, 2, none⟩ = some (.int .i64 p) := (HP4.out.below (below_undrew hR)).cell 2; go_simp; first | done | with_reducible rfl)); (· (simp only [Act.put, List.setIfInBounds_toArray, List.set_cons_zero, List.set_cons_succ]; first | done | rfl)))
          (refine' Sq.det (E := _) (b := _) (by rfl) (by rfl) (by rfl) (fun w' hR hf => ?_) ?_ ?_; rotate_left 2; (· (have hc := HW1.out; go_simp; first | done | with_reducible rfl)); (· (simp only [Act.put, List.setIfInBounds_toArray, List.set_cons_zero, List.set_cons_succ]; first | done | rfl)))
          (refine' Sq.det (E := _) (b := _) (by rfl) (by rfl) (by rfl) (fun w' hR hf => ?_) ?_ ?_; rotate_left 2; (· (go_simp; first | done | with_reducible rfl)); (· (simp only [Act.put, List.setIfInBounds_toArray, List.set_cons_zero, List.set_cons_succ]; first | done | rfl)))
          (refine' Sq.det (E := _) (b := _) (by rfl) (by rfl) (by rfl) (fun w' hR hf => ?_) ?_ ?_; rotate_left 2; (· (have hc : w'.cell? ⟨w.heap.size, 3, none⟩ = some (.slice (some ⟨g, off, none⟩) ws.length cap) := (HP4.out.below (below_undrew hR)).cell 3; go_simp; first | done | with_reducible rfl)); (· (simp only [Act.put, List.setIfInBounds_toArray, List.set_cons_zero, List.set_cons_succ]; first | done | rfl)))
          (refine' Sq.det (E := _) (b := _) (by rfl) (by rfl) (by rfl) (fun w' hR hf => ?_) ?_ ?_; rotate_left 2; (· (go_simp; first | done | with_reducible rfl)); (· (simp only [Act.put, List.setIfInBounds_toArray, List.set_cons_zero, List.set_cons_succ]; first | done | rfl)))
          (refine' Sq.det (E := _) (b := _) (by rfl) (by rfl) (by rfl) (fun w' hR hf => ?_) ?_ ?_; rotate_left 2; (· (go_simp; first | done | with_reducible rfl)); (· (simp only [Act.put, List.setIfInBounds_toArray, List.set_cons_zero, List.set_cons_succ]; first | done | rfl)))
          (refine' Sq.det (E := _) (b := _) (by rfl) (by rfl) (by rfl) (fun w' hR hf => ?_) ?_ ?_; rotate_left 2; (· (have hc := ((below_undrew hR).cell (p := ⟨g, off, none⟩) HG.out).trans HL0.out; go_simp; first | done | with_reducible rfl)); (· (simp only [Act.put, List.setIfInBounds_toArray, List.set_cons_zero, List.set_cons_succ]; first | done | rfl)))
          (refine' Sq.det (E := _) (b := _) (by rfl) (by rfl) (by rfl) (fun w' hR hf => ?_) ?_ ?_; rotate_left 2; (· (have hc := HW2.out; go_simp; first | done | with_reducible rfl)); (· (simp only [Act.put, List.setIfInBounds_toArray, List.set_cons_zero, List.set_cons_succ]; first | done | rfl)))
          (refine' Sq.det (E := _) (b := _) (by rfl) (by rfl) (by rfl) (fun w' hR hf => ?_) ?_ ?_; rotate_left 2; (· (go_simp; first | done | with_reducible rfl)); (· (simp only [Act.put, List.setIfInBounds_toArray, List.set_cons_zero, List.set_cons_succ]; first | done | rfl)))
          (refine' Sq.det (E := _) (b := _) (by rfl) (by rfl) (by rfl) (fun w' hR hf => ?_) ?_ ?_; rotate_left 2; (· (go_simp; first | done | with_reducible rfl)); (· (simp only [Act.put, List.setIfInBounds_toArray, List.set_cons_zero, List.set_cons_succ]; first | done | rfl)))
          refine Sq.done fun y hR _ => ?_
          have HY := Lib.hid (HB4.out.trans' (below_undrew hR))
          clear hR
          go_wp2
          go_ret2
          exact ⟨by rw [HE.out]; rfl, HY.out⟩
theorem next_any (c : Cfg) (m : Int) (g cap : Nat) (A : Option Addr) (w : World) (hr : Rd w g 2 A c.ws.length (c.ws.flatMap winc)) (hok : chkC c = 0) (hm0 : 0 ≤ m) (hm1 : m ≤ 1099511627776) :
    Calls Try.prog 54 #[.agg (cfgc c A cap).toArray, .int .i64 m] w fun e w' => e = .returned (.tuple #[.int .i64 (nextC c m).1, .bool (nextC c m).2]) ∧ Below w.heap.size w w' :=
  next_walk c.rate c.delay c.period m _ _ _ c.ws g cap A w hr (chk_ok hok).2.1 (chk_per hok).1 (chk_per hok).2 hm0 hm1 (chk_all hok) rfl rfl rfl
end Go.Proofs.Ytnddahajfcmkiaa
