/- The reference's Connected: the same answer. Conditions: a whole number of 64 bits. -/
import Derived.Test.YtnddahajfcmkiaaLj
namespace Go.Proofs.Ytnddahajfcmkiaa
set_option linter.unusedSimpArgs false
set_option linter.unusedVariables false
set_option linter.unnecessarySimpa false
open Go.RowKit

theorem conC_any {c : Cfg} {m : Int} (h : chkC c = 0) (hm : 0 ≤ m) : conC c m = c.ws.any (inW (splitR c.period m)) := by
  have h1 : (winC c m).2.2 = (c.ws.find? (inW (splitR c.period m))).isSome := by
    unfold winC
    cases c.ws.find? (inW (splitR c.period m)) <;> rfl
  have h2 : (c.ws.find? (inW (splitR c.period m))).isSome = c.ws.any (inW (splitR c.period m)) := by
    rw [Bool.eq_iff_iff, List.find?_isSome, List.any_eq_true]
  simp [conC, h, hm, h1, h2]
set_option maxRecDepth 20000 in
set_option maxHeartbeats 4000000 in
theorem refcon_walk (r d p m : Int) (res : Bool) (ws : List Wn) (g cap : Nat) (A : Option Addr) (w : World) (hr : Rd w g 2 A ws.length (ws.flatMap winc)) (hl : ws.length ≤ maxLen) (hres : res = conC ⟨r, d, p, ws⟩ m) :
    Calls Try.prog 35 #[.agg #[.int .i64 r, .int .i64 d, .int .i64 p, .slice A ws.length cap], .int .i64 m] w fun e w' => e = .returned (.bool res) ∧ Below w.heap.size w w' := by
  have HR := Lib.hid hr
  obtain ⟨k, hk⟩ : ∃ k, k = chkC ⟨r, d, p, ws⟩ := ⟨_, rfl⟩
  have HK := Lib.hid hk
  have hb := bnew w (.cells #[.int .i64 r, .int .i64 d, .int .i64 p, .slice A ws.length cap] 24)
  have HB := Lib.hid hb
  have HP := Lib.hid (Blk.new w 24 #[.int .i64 r, .int .i64 d, .int .i64 p, .slice A ws.length cap])
  clear hr hb
  by_cases h1 : k = 0
  · subst h1
    by_cases hm : m < 0
    · have e : res = false := by rw [hres]; simp [conC]; omega
      subst e
      clear hk hres
      go_enter Try.func35, Try.ntmps35
      go_wp2_with (first
        | ((with_reducible refine at_dst 6 ?_); (refine wpList_load_cells rfl 24 _ rfl w.heap.size 0 (cfgc ⟨r, d, p, ws⟩ A cap) rfl _ Try.underlying24 rfl info24 (fun j u hu => ?_) ?_; (rw [Nat.zero_add, HP.out.cell, List.getElem?_toArray]; exact hu)))
        | (go_at_call 32; (refine (refcheck_any ⟨r, d, p, ws⟩ g A cap _ (HR.out.below HB.out) hl).mono ?_; rintro e y1 ⟨he, hb1⟩; rw [← HK.out] at he; subst he; have HB2 := Lib.hid (HB.out.trans' hb1); have HP2 := Lib.hid (HP.out.below hb1); have hc2 := HP2.out.cell 2; have hc3 := HP2.out.cell 3; clear hb1)))
      go_ret
      exact ⟨rfl, HB2.out⟩
    · have hp := chk_per hk.symm
      have hl32 : ws.length ≤ 32 := (chk_ok hk.symm).2.1
      simp only at hp
      have hra := conC_any hk.symm (show 0 ≤ m by omega)
      rw [← hres] at hra
      simp only at hra
      have hm0 : 0 ≤ m := by omega
      clear hres hk
      by_cases hpz : p = 0
      · subst hpz
        obtain ⟨q, hq⟩ : ∃ q, q = m := ⟨_, rfl⟩
        subst hq
        have HRS : Hid (res = ws.any (inW q)) := Lib.hid (by rw [hra]; simp [splitR])
        clear hra hp
        go_enter Try.func35, Try.ntmps35
        go_wp2_with (first
          | ((with_reducible refine at_dst 6 ?_); (refine wpList_load_cells rfl 24 _ rfl w.heap.size 0 (cfgc ⟨r, d, 0, ws⟩ A cap) rfl _ Try.underlying24 rfl info24 (fun j u hu => ?_) ?_; (rw [Nat.zero_add, HP.out.cell, List.getElem?_toArray]; exact hu)))
          | (go_at_call 32; (refine (refcheck_any ⟨r, d, 0, ws⟩ g A cap _ (HR.out.below HB.out) hl).mono ?_; rintro e y1 ⟨he, hb1⟩; rw [← HK.out] at he; subst he; have HB2 := Lib.hid (HB.out.trans' hb1); have HP2 := Lib.hid (HP.out.below hb1); have hc2 := HP2.out.cell 2; have hc3 := HP2.out.cell 3; clear hb1)))
        clear hc2 hm
        go_loopw [5] (fun kv wr => ∃ k : Nat, k ≤ ws.length ∧ kv = .int .i64 k ∧ wr = y1 ∧ Hid ((ws.drop k).any (inW q) = ws.any (inW q))) (fun kv _ => ws.length - (intOf kv).toNat)
        case atStart => exact ⟨0, by omega, rfl, rfl, Lib.hid rfl⟩
        case round =>
          obtain ⟨k, hk, rfl, rfl, HC⟩ := hrel
          by_cases hlt : k < ws.length
          · obtain ⟨hg, off, rfl, hc⟩ := (HR.out.below HB2.out).elem winc_len hlt rfl
            have hd : ws.drop k = ws[k] :: ws.drop (k + 1) := List.drop_eq_getElem_cons hlt
            have hca := HC.out
            rw [hd, List.any_cons] at hca
            obtain ⟨lo, hlo⟩ : ∃ lo, lo = ws[k].lo := ⟨_, rfl⟩
            obtain ⟨hi, hhi⟩ : ∃ hi, hi = ws[k].hi := ⟨_, rfl⟩
            have hl0 := hc 0 (.int .i64 lo) (by rw [hlo]; rfl)
            have hl1 := hc 1 (.int .i64 hi) (by rw [hhi]; rfl)
            simp only [Nat.add_zero] at hl0
            have hin : inW q ws[k] = (decide (lo ≤ q) && decide (q < hi)) := by rw [hlo, hhi]; rfl
            rw [hin] at hca
            clear hc hg hd hin hlo hhi
            by_cases h1 : lo ≤ q
            · by_cases h2 : q < hi
              · have HD : Hid (ws.any (inW q) = true) := Lib.hid (by rw [← hca]; simp [h1, h2])
                clear hca
                go_wp2
                go_ret
                exact ⟨by rw [HRS.out, HD.out]; rfl, HB2.out⟩
              · have HD : Hid ((ws.drop (k + 1)).any (inW q) = ws.any (inW q)) := Lib.hid (by rw [← hca]; simp [h2])
                clear hca
                go_wp2
                go_roundw
                case rel => exact ⟨k + 1, by omega, by go_num, by first | trivial | rfl, HD⟩
                case measure => simp [intOf]; omega
            · have HD : Hid ((ws.drop (k + 1)).any (inW q) = ws.any (inW q)) := Lib.hid (by rw [← hca]; simp [h1])
              clear hca
              go_wp2
              go_roundw
              case rel => exact ⟨k + 1, by omega, by go_num, by first | trivial | rfl, HD⟩
              case measure => simp [intOf]; omega
          · obtain rfl : k = ws.length := by omega
            have hd := HC.out
            rw [List.drop_length] at hd
            have HD := Lib.hid hd
            clear hd
            go_wp2
            go_ret
            exact ⟨by rw [HRS.out, ← HD.out]; rfl, HB2.out⟩
      · obtain ⟨q, hq⟩ : ∃ q, q = m % p := ⟨_, rfl⟩
        have hq1 : m.tmod p = q := by rw [hq]; exact Int.tmod_eq_emod_of_nonneg hm0
        have HRS : Hid (res = ws.any (inW q)) := Lib.hid (by rw [hra, hq]; simp [splitR, hpz])
        have hp1 : 0 < p := by omega
        clear hra hq hpz hp
        go_enter Try.func35, Try.ntmps35
        go_wp2_with (first
          | ((with_reducible refine at_dst 6 ?_); (refine wpList_load_cells rfl 24 _ rfl w.heap.size 0 (cfgc ⟨r, d, p, ws⟩ A cap) rfl _ Try.underlying24 rfl info24 (fun j u hu => ?_) ?_; (rw [Nat.zero_add, HP.out.cell, List.getElem?_toArray]; exact hu)))
          | (go_at_call 32; (refine (refcheck_any ⟨r, d, p, ws⟩ g A cap _ (HR.out.below HB.out) hl).mono ?_; rintro e y1 ⟨he, hb1⟩; rw [← HK.out] at he; subst he; have HB2 := Lib.hid (HB.out.trans' hb1); have HP2 := Lib.hid (HP.out.below hb1); have hc2 := HP2.out.cell 2; have hc3 := HP2.out.cell 3; clear hb1)))
        clear hc2 hm
        go_loopw [5] (fun kv wr => ∃ k : Nat, k ≤ ws.length ∧ kv = .int .i64 k ∧ wr = y1 ∧ Hid ((ws.drop k).any (inW q) = ws.any (inW q))) (fun kv _ => ws.length - (intOf kv).toNat)
        case atStart => exact ⟨0, by omega, rfl, rfl, Lib.hid rfl⟩
        case round =>
          obtain ⟨k, hk, rfl, rfl, HC⟩ := hrel
          by_cases hlt : k < ws.length
          · obtain ⟨hg, off, rfl, hc⟩ := (HR.out.below HB2.out).elem winc_len hlt rfl
            have hd : ws.drop k = ws[k] :: ws.drop (k + 1) := List.drop_eq_getElem_cons hlt
            have hca := HC.out
            rw [hd, List.any_cons] at hca
            obtain ⟨lo, hlo⟩ : ∃ lo, lo = ws[k].lo := ⟨_, rfl⟩
            obtain ⟨hi, hhi⟩ : ∃ hi, hi = ws[k].hi := ⟨_, rfl⟩
            have hl0 := hc 0 (.int .i64 lo) (by rw [hlo]; rfl)
            have hl1 := hc 1 (.int .i64 hi) (by rw [hhi]; rfl)
            simp only [Nat.add_zero] at hl0
            have hin : inW q ws[k] = (decide (lo ≤ q) && decide (q < hi)) := by rw [hlo, hhi]; rfl
            rw [hin] at hca
            clear hc hg hd hin hlo hhi
            by_cases h1 : lo ≤ q
            · by_cases h2 : q < hi
              · have HD : Hid (ws.any (inW q) = true) := Lib.hid (by rw [← hca]; simp [h1, h2])
                clear hca
                go_wp2
                go_ret
                exact ⟨by rw [HRS.out, HD.out]; rfl, HB2.out⟩
              · have HD : Hid ((ws.drop (k + 1)).any (inW q) = ws.any (inW q)) := Lib.hid (by rw [← hca]; simp [h2])
                clear hca
                go_wp2
                go_roundw
                case rel => exact ⟨k + 1, by omega, by go_num, by first | trivial | rfl, HD⟩
                case measure => simp [intOf]; omega
            · have HD : Hid ((ws.drop (k + 1)).any (inW q) = ws.any (inW q)) := Lib.hid (by rw [← hca]; simp [h1])
              clear hca
              go_wp2
              go_roundw
              case rel => exact ⟨k + 1, by omega, by go_num, by first | trivial | rfl, HD⟩
              case measure => simp [intOf]; omega
          · obtain rfl : k = ws.length := by omega
            have hd := HC.out
            rw [List.drop_length] at hd
            have HD := Lib.hid hd
            clear hd
            go_wp2
            go_ret
            exact ⟨by rw [HRS.out, ← HD.out]; rfl, HB2.out⟩
  · have e : res = false := by rw [hres]; simp [conC, ← hk, h1]
    subst e
    clear hk hres
    go_enter Try.func35, Try.ntmps35
    go_wp2_with (first
      | ((with_reducible refine at_dst 6 ?_); (refine wpList_load_cells rfl 24 _ rfl w.heap.size 0 (cfgc ⟨r, d, p, ws⟩ A cap) rfl _ Try.underlying24 rfl info24 (fun j u hu => ?_) ?_; (rw [Nat.zero_add, HP.out.cell, List.getElem?_toArray]; exact hu)))
      | (go_at_call 32; (refine (refcheck_any ⟨r, d, p, ws⟩ g A cap _ (HR.out.below HB.out) hl).mono ?_; rintro e y1 ⟨he, hb1⟩; rw [← HK.out] at he; subst he; have HB2 := Lib.hid (HB.out.trans' hb1); have HP2 := Lib.hid (HP.out.below hb1); have hc2 := HP2.out.cell 2; have hc3 := HP2.out.cell 3; clear hb1)))
    go_ret
    exact ⟨rfl, HB2.out⟩
end Go.Proofs.Ytnddahajfcmkiaa
