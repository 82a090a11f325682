/- The line: Next. Conditions: none beyond a whole number of 64 bits. -/
import Derived.Test.YtnddahajfcmkiaaLh
namespace Go.Proofs.Ytnddahajfcmkiaa
set_option linter.unusedSimpArgs false
set_option linter.unusedVariables false
set_option linter.unnecessarySimpa false
open Go.RowKit

def NextC (c : Cfg) (m : Int) : Int × Bool := if 1099511627776 < m ∨ chkC c ≠ 0 then (0, false) else nextC c (max m 0)
set_option maxRecDepth 20000 in
set_option maxHeartbeats 1000000 in
theorem Next_any (c : Cfg) (m : Int) (g cap : Nat) (A : Option Addr) (w : World) (hr : Rd w g 2 A c.ws.length (c.ws.flatMap winc)) (hl : c.ws.length ≤ maxLen) :
    Calls Try.prog 37 #[.agg (cfgc c A cap).toArray, .int .i64 m] w fun e w' => e = .returned (.tuple #[.int .i64 (NextC c m).1, .bool (NextC c m).2]) ∧ Below w.heap.size w w' := by
  have HR := Lib.hid hr
  have hb := bnew w (.cells (cfgc c A cap).toArray 35)
  have HB := Lib.hid hb
  have HP := Lib.hid (Blk.new w 35 (cfgc c A cap).toArray)
  clear hr hb
  by_cases h0 : 1099511627776 < m
  · have e : NextC c m = (0, false) := by simp [NextC, h0]
    rw [e]
    go_enter Try.func37, Try.ntmps37
    go_wp2
    go_ret2
    exact ⟨rfl, HB.out⟩
  · obtain ⟨k, hk⟩ : ∃ k, k = chkC c := ⟨_, rfl⟩
    have HK := Lib.hid hk
    by_cases h1 : k = 0
    · subst h1
      have e : NextC c m = nextC c (max m 0) := by simp [NextC, ← hk]; omega
      rw [e]
      rcases (by omega : 0 ≤ m ∨ m < 0) with hm | hm
      · have em : max m 0 = m := by omega
        rw [em]
        have HW := Lib.hid (fun w' (hb' : Below w.heap.size w w') => next_any c m g cap A w' (HR.out.below hb') hk.symm hm (by omega))
        clear hk e em
        go_enter Try.func37, Try.ntmps37
        go_wp2_with (first
          | ((with_reducible refine at_dst 9 ?_); (refine wpList_wanted (by first | (simp [Region.wanted, yielded]; done) | (simp [Region.wanted, yielded]; omega)) fun _ hK => wp_load_cells 35 _ rfl w.heap.size 0 (cfgc c A cap) rfl _ Try.underlying35 rfl info35 (fun j u hu => by rw [Nat.zero_add, HP.out.cell, List.getElem?_toArray]; exact hu) (hK _ _ ?_)))
          | (go_at_call 33; (refine (check_any c g A cap _ (HR.out.below HB.out) hl).mono ?_; rintro e y1 ⟨he, hb1⟩; rw [← HK.out] at he; subst he; have HB2 := Lib.hid (HB.out.trans' hb1); have HP2 := Lib.hid (HP.out.below hb1); clear hb1))
          | ((with_reducible refine at_dst 13 ?_); (refine wpList_load_cells rfl 35 _ rfl w.heap.size 0 (cfgc c A cap) rfl _ Try.underlying35 rfl info35 (fun j u hu => ?_) ?_; (rw [Nat.zero_add, HP2.out.cell, List.getElem?_toArray]; exact hu)))
          | (go_at_call 54; (refine (HW.out _ HB2.out).mono ?_; rintro e y2 ⟨rfl, hb2⟩; have HB3 := Lib.hid (HB2.out.trans' hb2); clear hb2)))
        go_ret2
        exact ⟨rfl, HB3.out⟩
      · have em : max m 0 = 0 := by omega
        rw [em]
        have HW := Lib.hid (fun w' (hb' : Below w.heap.size w w') => next_any c 0 g cap A w' (HR.out.below hb') hk.symm (by omega) (by omega))
        clear hk e em
        go_enter Try.func37, Try.ntmps37
        go_wp2_with (first
          | ((with_reducible refine at_dst 9 ?_); (refine wpList_wanted (by first | (simp [Region.wanted, yielded]; done) | (simp [Region.wanted, yielded]; omega)) fun _ hK => wp_load_cells 35 _ rfl w.heap.size 0 (cfgc c A cap) rfl _ Try.underlying35 rfl info35 (fun j u hu => by rw [Nat.zero_add, HP.out.cell, List.getElem?_toArray]; exact hu) (hK _ _ ?_)))
          | (go_at_call 33; (refine (check_any c g A cap _ (HR.out.below HB.out) hl).mono ?_; rintro e y1 ⟨he, hb1⟩; rw [← HK.out] at he; subst he; have HB2 := Lib.hid (HB.out.trans' hb1); have HP2 := Lib.hid (HP.out.below hb1); clear hb1))
          | ((with_reducible refine at_dst 13 ?_); (refine wpList_load_cells rfl 35 _ rfl w.heap.size 0 (cfgc c A cap) rfl _ Try.underlying35 rfl info35 (fun j u hu => ?_) ?_; (rw [Nat.zero_add, HP2.out.cell, List.getElem?_toArray]; exact hu)))
          | (go_at_call 54; (refine (HW.out _ HB2.out).mono ?_; rintro e y2 ⟨rfl, hb2⟩; have HB3 := Lib.hid (HB2.out.trans' hb2); clear hb2)))
        go_ret2
        exact ⟨rfl, HB3.out⟩
    · have e : NextC c m = (0, false) := by simp [NextC, ← hk, h1]
      rw [e]
      clear hk e
      go_enter Try.func37, Try.ntmps37
      go_wp2_with (first
        | ((with_reducible refine at_dst 9 ?_); (refine wpList_wanted (by first | (simp [Region.wanted, yielded]; done) | (simp [Region.wanted, yielded]; omega)) fun _ hK => wp_load_cells 35 _ rfl w.heap.size 0 (cfgc c A cap) rfl _ Try.underlying35 rfl info35 (fun j u hu => by rw [Nat.zero_add, HP.out.cell, List.getElem?_toArray]; exact hu) (hK _ _ ?_)))
        | (go_at_call 33; (refine (check_any c g A cap _ (HR.out.below HB.out) hl).mono ?_; rintro e y1 ⟨he, hb1⟩; rw [← HK.out] at he; subst he; have HB2 := Lib.hid (HB.out.trans' hb1); have HP2 := Lib.hid (HP.out.below hb1); clear hb1))
        | ((with_reducible refine at_dst 13 ?_); (refine wpList_load_cells rfl 35 _ rfl w.heap.size 0 (cfgc c A cap) rfl _ Try.underlying35 rfl info35 (fun j u hu => ?_) ?_; (rw [Nat.zero_add, HP2.out.cell, List.getElem?_toArray]; exact hu)))
        | (go_at_call 54; (refine (HW.out _ HB2.out).mono ?_; rintro e y2 ⟨rfl, hb2⟩; have HB3 := Lib.hid (HB2.out.trans' hb2); clear hb2)))
      go_ret2
      exact ⟨rfl, HB2.out⟩
end Go.Proofs.Ytnddahajfcmkiaa
