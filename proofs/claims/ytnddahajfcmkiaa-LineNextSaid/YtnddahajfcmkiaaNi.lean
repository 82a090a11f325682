/- LineNext's walk. Conditions: none. -/
import Derived.Test.YtnddahajfcmkiaaNh
namespace Go.Proofs.Ytnddahajfcmkiaa
set_option linter.unusedSimpArgs false
set_option linter.unusedVariables false
set_option linter.unnecessarySimpa false
open Go.RowKit
set_option maxRecDepth 20000 in
set_option maxHeartbeats 4000000 in
theorem lineNext_none (c : Cfg) (m q : Int) (g cap : Nat) (A : Option Addr) (w : World) (hr : Rd w g 2 A c.ws.length (c.ws.flatMap winc)) (hc : c.ws.length ≤ cap) (hl : cap ≤ maxLen) (hq : refNextC (cutC c) m = q) (hq0 : q < 0) :
    Calls Try.prog 8 #[.agg (cfgc c A cap).toArray, .int .i64 m] w fun e w' => e = .returned (.bool true) ∧ Below w.heap.size w w' := by
  have HQ := Lib.hid hq
  have HQN : Hid ((max q 0, decide (0 ≤ q)) = (0, false)) := Lib.hid (by rw [decide_eq_false (by omega), show max q 0 = 0 by omega])
  have hqd : ¬ 0 ≤ q := by omega
  clear hq
  have HR := Lib.hid hr
  have HCL := Lib.hid (And.intro hc hl)
  have HCM : Hid ((cutC c).ws.length ≤ maxLen) := Lib.hid (Nat.le_trans (cut_len c) (by unfold maxLen; omega))
  have HP := Lib.hid (Blk.new w 24 (cfgc c A cap).toArray)
  have HB := Lib.hid (bnew w (.cells (cfgc c A cap).toArray 24))
  clear hr hc hl
  go_enter Try.func8, Try.ntmps8
  go_wp2_with (first
    | ((with_reducible refine at_dst 10 ?_); (refine wpList_load_cells rfl 24 _ rfl w.heap.size 0 (cfgc c A cap) rfl _ Try.underlying24 rfl info24' (fun j u hu => ?_) ?_; (rw [Nat.zero_add, HP.out.cell, List.getElem?_toArray]; exact hu)))
    | (go_at_call 14; ((refine (cut_at c g cap A _ (HR.out.below HB.out) HCL.out.1 HCL.out.2).mono ?_); (rintro e y1 ⟨A1, cap1, g1, he, h1, h2, h4, h3⟩; subst he; have HR1 := Lib.hid h1; have HC1 := Lib.hid h2; have HG1 : Hid (0 < (cutC c).ws.length → w.heap.size < g1) := Lib.hid (fun h => by have := h4 h; simp at this; omega); have HB1 := Lib.hid (HB.out.trans' h3); have HP1 := Lib.hid (HP.out.below h3); clear h1 h2 h3 h4)))
    | ((with_reducible refine at_store 24 2 ?_); (refine wpList_store_blk rfl 24 (.tmp 2) (.tmp 11) rfl w.heap.size 0 24 (cfgc c A cap) (cfgc (cutC c) A1 cap1) HP1.out (by rfl) (by rfl) info24' (by simp [cfgc]) (by simp [cfgc, Value.oneCell']) ?_; intro y2 hb2 hg2 hs2; have HP2 : Hid (Blk y2 w.heap.size 24 (cfgc (cutC c) A1 cap1).toArray) := Lib.hid (by simpa [cfgc] using hb2); have HB2 := Lib.hid (HB1.out.grown hg2 HB1.out.size (fun x hx => by simp at hx; omega)); have HR2 := Lib.hid (rd_off HR1.out hg2 (fun h => by have := HG1.out h; omega)); clear hb2 hg2 hs2))
    | ((with_reducible refine at_dst 12 ?_); (refine wpList_load_cells rfl 24 _ rfl w.heap.size 0 (cfgc (cutC c) A1 cap1) rfl _ Try.underlying24 rfl info24' (fun j u hu => ?_) ?_; (rw [Nat.zero_add, HP2.out.cell, List.getElem?_toArray]; exact hu)))
    | (go_at_call 16; ((refine (config_any (cutC c) g1 cap1 A1 _ HR2.out HCM.out).mono ?_); (rintro e y3 ⟨A2, cap2, g2, he, h1, h2, h4, h3⟩; rw [cut_idem] at he h1 h2 h4; subst he; have HR3 := Lib.hid h1; have HC3 := Lib.hid h2; have HB3 := Lib.hid (HB2.out.trans' h3); have HP3 := Lib.hid (HP2.out.below h3); have HRR := Lib.hid (HR2.out.below h3); clear h1 h2 h3 h4)))
    | ((with_reducible refine at_dst 5 ?_); (refine wpList_var 35 (cfgc (cutC c) A2 cap2) _ Try.underlying35 z35 info35z rfl (by simp [cfgc, Value.oneCell']) (by simp [Act.put]) rfl ?_; have HPA := Lib.hid (HP3.out.alloc (.cells (cfgc (cutC c) A2 cap2).toArray 35)); have HXA := Lib.hid (Blk.new y3 35 (cfgc (cutC c) A2 cap2).toArray); have HBA := Lib.hid (HB3.out.trans' (bnew y3 (.cells (cfgc (cutC c) A2 cap2).toArray 35))); have HRA := Lib.hid (HRR.out.below (bnew y3 (.cells (cfgc (cutC c) A2 cap2).toArray 35))); have HRX := Lib.hid (HR3.out.below (bnew y3 (.cells (cfgc (cutC c) A2 cap2).toArray 35)))))
    | ((with_reducible refine at_dst 15 ?_); (refine wpList_load_cells rfl 35 _ rfl y3.heap.size 0 (cfgc (cutC c) A2 cap2) rfl _ Try.underlying35 rfl info35 (fun j u hu => ?_) ?_; (rw [Nat.zero_add, HXA.out.cell, List.getElem?_toArray]; exact hu)))
    | (go_at_call 37; ((refine (Next_any (cutC c) m g2 cap2 A2 _ HRX.out HCM.out).mono ?_); (rintro e y4 ⟨he, hb4⟩; rw [Next_ref, HQ.out, HQN.out] at he; subst he; have HB4 := Lib.hid (HBA.out.trans' hb4); have HP4 := Lib.hid (HPA.out.below hb4); have HX4 := Lib.hid (HXA.out.below hb4); have HR4 := Lib.hid (HRA.out.below hb4); have HRX4 := Lib.hid (HRX.out.below hb4); clear hb4)))
    | ((with_reducible refine at_dst 20 ?_); (refine wpList_load_cells rfl 24 _ rfl w.heap.size 0 (cfgc (cutC c) A1 cap1) rfl _ Try.underlying24 rfl info24' (fun j u hu => ?_) ?_; (rw [Nat.zero_add, HP4.out.cell, List.getElem?_toArray]; exact hu)))
    | (go_at_call 38; ((refine (refnext_any (cutC c) m g1 cap1 A1 _ HR4.out HCM.out).mono ?_); (rintro e y5 ⟨he, hb5⟩; rw [HQ.out] at he; subst he; have HB5 := Lib.hid (HB4.out.trans' hb5); have HX5 := Lib.hid (HX4.out.below hb5); have HRX5 := Lib.hid (HRX4.out.below hb5); clear hb5)))
    | (go_at_call 17; ((refine (known_any _).mono ?_); (rintro e y6 ⟨he, hb6⟩; subst he; have HB6 := Lib.hid (HB5.out.trans' hb6); have HX6 := Lib.hid (HX5.out.below hb6); have HRX6 := Lib.hid (HRX5.out.below hb6); clear hb6)))
    | fail)
  go_loopw [9] (fun iv wr => ∃ k : Nat, k ≤ 200 ∧ iv = .int .i64 k ∧ Hid (Below w.heap.size w wr)) (fun iv _ => 200 - (intOf iv).toNat)
  case atStart => exact ⟨0, by omega, rfl, HB6⟩
  case round =>
    obtain ⟨k, hk, rfl, HBR⟩ := hrel
    by_cases hlt : k < 200
    · go_wp2
      go_ret
      exact ⟨rfl, HBR.out⟩
    · go_wp2
      go_ret
      exact ⟨rfl, HBR.out⟩
set_option maxRecDepth 20000 in
set_option maxHeartbeats 8000000 in
theorem lineNext_some (c : Cfg) (m q : Int) (g cap : Nat) (A : Option Addr) (w : World) (hr : Rd w g 2 A c.ws.length (c.ws.flatMap winc)) (hc : c.ws.length ≤ cap) (hl : cap ≤ maxLen) (hq : refNextC (cutC c) m = q) (hq0 : 0 ≤ q) :
    Calls Try.prog 8 #[.agg (cfgc c A cap).toArray, .int .i64 m] w fun e w' => e = .returned (.bool true) ∧ Below w.heap.size w w' := by
  have hlw := next_law (c := cutC c) (m := m) (by rw [hq]; exact hq0)
  rw [hq] at hlw
  obtain ⟨_, hm1, hqb, hl1, hl2⟩ := hlw
  have HQ := Lib.hid hq
  have HQN : Hid ((max q 0, decide (0 ≤ q)) = (q, true)) := Lib.hid (by rw [decide_eq_true (by omega), show max q 0 = q by omega])
  have HQB := Lib.hid (show q ≤ 9223372036854775807 by omega)
  clear hq
  have HR := Lib.hid hr
  have HCL := Lib.hid (And.intro hc hl)
  have HCM : Hid ((cutC c).ws.length ≤ maxLen) := Lib.hid (Nat.le_trans (cut_len c) (by unfold maxLen; omega))
  have HP := Lib.hid (Blk.new w 24 (cfgc c A cap).toArray)
  have HB := Lib.hid (bnew w (.cells (cfgc c A cap).toArray 24))
  clear hr hc hl
  rcases (by omega : 0 ≤ m ∨ m < 0) with hm0 | hm0
  · have HLAW := Lib.hid (And.intro hl1 (show ∀ x, m ≤ x → x < q → conC (cutC c) x = false from fun x h => hl2 x (by omega)))
    clear hl1 hl2
    go_enter Try.func8, Try.ntmps8
    go_wp2_with (first
      | ((with_reducible refine at_dst 10 ?_); (refine wpList_load_cells rfl 24 _ rfl w.heap.size 0 (cfgc c A cap) rfl _ Try.underlying24 rfl info24' (fun j u hu => ?_) ?_; (rw [Nat.zero_add, HP.out.cell, List.getElem?_toArray]; exact hu)))
      | (go_at_call 14; ((refine (cut_at c g cap A _ (HR.out.below HB.out) HCL.out.1 HCL.out.2).mono ?_); (rintro e y1 ⟨A1, cap1, g1, he, h1, h2, h4, h3⟩; subst he; have HR1 := Lib.hid h1; have HC1 := Lib.hid h2; have HG1 : Hid (0 < (cutC c).ws.length → w.heap.size < g1) := Lib.hid (fun h => by have := h4 h; simp at this; omega); have HB1 := Lib.hid (HB.out.trans' h3); have HP1 := Lib.hid (HP.out.below h3); clear h1 h2 h3 h4)))
      | ((with_reducible refine at_store 24 2 ?_); (refine wpList_store_blk rfl 24 (.tmp 2) (.tmp 11) rfl w.heap.size 0 24 (cfgc c A cap) (cfgc (cutC c) A1 cap1) HP1.out (by rfl) (by rfl) info24' (by simp [cfgc]) (by simp [cfgc, Value.oneCell']) ?_; intro y2 hb2 hg2 hs2; have HP2 : Hid (Blk y2 w.heap.size 24 (cfgc (cutC c) A1 cap1).toArray) := Lib.hid (by simpa [cfgc] using hb2); have HB2 := Lib.hid (HB1.out.grown hg2 HB1.out.size (fun x hx => by simp at hx; omega)); have HR2 := Lib.hid (rd_off HR1.out hg2 (fun h => by have := HG1.out h; omega)); clear hb2 hg2 hs2))
      | ((with_reducible refine at_dst 12 ?_); (refine wpList_load_cells rfl 24 _ rfl w.heap.size 0 (cfgc (cutC c) A1 cap1) rfl _ Try.underlying24 rfl info24' (fun j u hu => ?_) ?_; (rw [Nat.zero_add, HP2.out.cell, List.getElem?_toArray]; exact hu)))
      | (go_at_call 16; ((refine (config_any (cutC c) g1 cap1 A1 _ HR2.out HCM.out).mono ?_); (rintro e y3 ⟨A2, cap2, g2, he, h1, h2, h4, h3⟩; rw [cut_idem] at he h1 h2 h4; subst he; have HR3 := Lib.hid h1; have HC3 := Lib.hid h2; have HB3 := Lib.hid (HB2.out.trans' h3); have HP3 := Lib.hid (HP2.out.below h3); have HRR := Lib.hid (HR2.out.below h3); clear h1 h2 h3 h4)))
      | ((with_reducible refine at_dst 5 ?_); (refine wpList_var 35 (cfgc (cutC c) A2 cap2) _ Try.underlying35 z35 info35z rfl (by simp [cfgc, Value.oneCell']) (by simp [Act.put]) rfl ?_; have HPA := Lib.hid (HP3.out.alloc (.cells (cfgc (cutC c) A2 cap2).toArray 35)); have HXA := Lib.hid (Blk.new y3 35 (cfgc (cutC c) A2 cap2).toArray); have HBA := Lib.hid (HB3.out.trans' (bnew y3 (.cells (cfgc (cutC c) A2 cap2).toArray 35))); have HRA := Lib.hid (HRR.out.below (bnew y3 (.cells (cfgc (cutC c) A2 cap2).toArray 35))); have HRX := Lib.hid (HR3.out.below (bnew y3 (.cells (cfgc (cutC c) A2 cap2).toArray 35)))))
      | ((with_reducible refine at_dst 15 ?_); (refine wpList_load_cells rfl 35 _ rfl y3.heap.size 0 (cfgc (cutC c) A2 cap2) rfl _ Try.underlying35 rfl info35 (fun j u hu => ?_) ?_; (rw [Nat.zero_add, HXA.out.cell, List.getElem?_toArray]; exact hu)))
      | (go_at_call 37; ((refine (Next_any (cutC c) m g2 cap2 A2 _ HRX.out HCM.out).mono ?_); (rintro e y4 ⟨he, hb4⟩; rw [Next_ref, HQ.out, HQN.out] at he; subst he; have HB4 := Lib.hid (HBA.out.trans' hb4); have HP4 := Lib.hid (HPA.out.below hb4); have HX4 := Lib.hid (HXA.out.below hb4); have HR4 := Lib.hid (HRA.out.below hb4); have HRX4 := Lib.hid (HRX.out.below hb4); clear hb4)))
      | ((with_reducible refine at_dst 20 ?_); (refine wpList_load_cells rfl 24 _ rfl w.heap.size 0 (cfgc (cutC c) A1 cap1) rfl _ Try.underlying24 rfl info24' (fun j u hu => ?_) ?_; (rw [Nat.zero_add, HP4.out.cell, List.getElem?_toArray]; exact hu)))
      | (go_at_call 38; ((refine (refnext_any (cutC c) m g1 cap1 A1 _ HR4.out HCM.out).mono ?_); (rintro e y5 ⟨he, hb5⟩; rw [HQ.out] at he; subst he; have HB5 := Lib.hid (HB4.out.trans' hb5); have HX5 := Lib.hid (HX4.out.below hb5); have HRX5 := Lib.hid (HRX4.out.below hb5); clear hb5)))
      | (go_at_call 17; ((refine (known_any _).mono ?_); (rintro e y6 ⟨he, hb6⟩; subst he; have HB6 := Lib.hid (HB5.out.trans' hb6); have HX6 := Lib.hid (HX5.out.below hb6); have HRX6 := Lib.hid (HRX5.out.below hb6); clear hb6)))
      | fail)
    go_loopw [9] (fun iv wr => ∃ k : Nat, k ≤ 200 ∧ iv = .int .i64 k ∧ Hid (Below y6.heap.size y6 wr)) (fun iv _ => 200 - (intOf iv).toNat)
    case atStart => exact ⟨0, by omega, rfl, Lib.hid (Below.refl _ _)⟩
    case round =>
      obtain ⟨k, hk, rfl, HBR⟩ := hrel
      have HXR := Lib.hid (HX6.out.below HBR.out)
      have HRR2 := Lib.hid (HRX6.out.below HBR.out)
      have HBR2 := Lib.hid (HB6.out.trans' HBR.out)
      by_cases hlt : k < 200
      · by_cases hkn : m + (k : Int) < q
        · have hcf := HLAW.out.2 (m + k) (by omega) hkn
          have HCF := Lib.hid hcf
          have hmb : m + (k : Int) ≤ 9223372036854775807 := by omega
          have HMB := Lib.hid hmb
          clear hcf hmb
          go_wp2_with (first
            | ((with_reducible refine at_dst 52 ?_); (refine wpList_load_cells rfl 35 _ rfl y3.heap.size 0 (cfgc (cutC c) A2 cap2) rfl _ Try.underlying35 rfl info35 (fun j u hu => ?_) ?_; (rw [Nat.zero_add, HXR.out.cell, List.getElem?_toArray]; exact hu)))
            | (go_at_call 34; ((refine (connected_any (cutC c) _ g2 cap2 A2 _ HRR2.out HCM.out (by have := HMB.out; omega)).mono ?_); (rintro e y7 ⟨he, hb7⟩; (try rw [Int.zero_add] at HCF); rw [HCF.out] at he; subst he; have HB7 := Lib.hid hb7; clear hb7))))
          go_roundw
          case rel => exact ⟨k + 1, by omega, by go_num, Lib.hid (HBR.out.trans' HB7.out)⟩
          case measure => simp [intOf]; omega
        · go_wp2_with (first
            | ((with_reducible refine at_dst 61 ?_); (refine wpList_wanted (by first | (simp [Region.wanted, yielded]; done) | (simp [Region.wanted, yielded]; omega)) fun _ hK => wp_load_cells 35 _ rfl y3.heap.size 0 (cfgc (cutC c) A2 cap2) rfl _ Try.underlying35 rfl info35 (fun j u hu => by rw [Nat.zero_add, HXR.out.cell, List.getElem?_toArray]; exact hu) (hK _ _ ?_)))
            | (go_at_call 34; ((refine (connected_any (cutC c) q g2 cap2 A2 _ HRR2.out HCM.out HQB.out).mono ?_); (rintro e y7 ⟨he, hb7⟩; rw [HLAW.out.1] at he; subst he; have HB7 := Lib.hid hb7; clear hb7))))
          go_ret
          exact ⟨rfl, HBR2.out.trans' HB7.out⟩
      · go_wp2_with (first
          | ((with_reducible refine at_dst 61 ?_); (refine wpList_wanted (by first | (simp [Region.wanted, yielded]; done) | (simp [Region.wanted, yielded]; omega)) fun _ hK => wp_load_cells 35 _ rfl y3.heap.size 0 (cfgc (cutC c) A2 cap2) rfl _ Try.underlying35 rfl info35 (fun j u hu => by rw [Nat.zero_add, HXR.out.cell, List.getElem?_toArray]; exact hu) (hK _ _ ?_)))
          | (go_at_call 34; ((refine (connected_any (cutC c) q g2 cap2 A2 _ HRR2.out HCM.out HQB.out).mono ?_); (rintro e y7 ⟨he, hb7⟩; rw [HLAW.out.1] at he; subst he; have HB7 := Lib.hid hb7; clear hb7))))
        go_ret
        exact ⟨rfl, HBR2.out.trans' HB7.out⟩
  · have HLAW := Lib.hid (And.intro hl1 (show ∀ x, (0 : Int) ≤ x → x < q → conC (cutC c) x = false from fun x h => hl2 x (by omega)))
    clear hl1 hl2
    go_enter Try.func8, Try.ntmps8
    go_wp2_with (first
      | ((with_reducible refine at_dst 10 ?_); (refine wpList_load_cells rfl 24 _ rfl w.heap.size 0 (cfgc c A cap) rfl _ Try.underlying24 rfl info24' (fun j u hu => ?_) ?_; (rw [Nat.zero_add, HP.out.cell, List.getElem?_toArray]; exact hu)))
      | (go_at_call 14; ((refine (cut_at c g cap A _ (HR.out.below HB.out) HCL.out.1 HCL.out.2).mono ?_); (rintro e y1 ⟨A1, cap1, g1, he, h1, h2, h4, h3⟩; subst he; have HR1 := Lib.hid h1; have HC1 := Lib.hid h2; have HG1 : Hid (0 < (cutC c).ws.length → w.heap.size < g1) := Lib.hid (fun h => by have := h4 h; simp at this; omega); have HB1 := Lib.hid (HB.out.trans' h3); have HP1 := Lib.hid (HP.out.below h3); clear h1 h2 h3 h4)))
      | ((with_reducible refine at_store 24 2 ?_); (refine wpList_store_blk rfl 24 (.tmp 2) (.tmp 11) rfl w.heap.size 0 24 (cfgc c A cap) (cfgc (cutC c) A1 cap1) HP1.out (by rfl) (by rfl) info24' (by simp [cfgc]) (by simp [cfgc, Value.oneCell']) ?_; intro y2 hb2 hg2 hs2; have HP2 : Hid (Blk y2 w.heap.size 24 (cfgc (cutC c) A1 cap1).toArray) := Lib.hid (by simpa [cfgc] using hb2); have HB2 := Lib.hid (HB1.out.grown hg2 HB1.out.size (fun x hx => by simp at hx; omega)); have HR2 := Lib.hid (rd_off HR1.out hg2 (fun h => by have := HG1.out h; omega)); clear hb2 hg2 hs2))
      | ((with_reducible refine at_dst 12 ?_); (refine wpList_load_cells rfl 24 _ rfl w.heap.size 0 (cfgc (cutC c) A1 cap1) rfl _ Try.underlying24 rfl info24' (fun j u hu => ?_) ?_; (rw [Nat.zero_add, HP2.out.cell, List.getElem?_toArray]; exact hu)))
      | (go_at_call 16; ((refine (config_any (cutC c) g1 cap1 A1 _ HR2.out HCM.out).mono ?_); (rintro e y3 ⟨A2, cap2, g2, he, h1, h2, h4, h3⟩; rw [cut_idem] at he h1 h2 h4; subst he; have HR3 := Lib.hid h1; have HC3 := Lib.hid h2; have HB3 := Lib.hid (HB2.out.trans' h3); have HP3 := Lib.hid (HP2.out.below h3); have HRR := Lib.hid (HR2.out.below h3); clear h1 h2 h3 h4)))
      | ((with_reducible refine at_dst 5 ?_); (refine wpList_var 35 (cfgc (cutC c) A2 cap2) _ Try.underlying35 z35 info35z rfl (by simp [cfgc, Value.oneCell']) (by simp [Act.put]) rfl ?_; have HPA := Lib.hid (HP3.out.alloc (.cells (cfgc (cutC c) A2 cap2).toArray 35)); have HXA := Lib.hid (Blk.new y3 35 (cfgc (cutC c) A2 cap2).toArray); have HBA := Lib.hid (HB3.out.trans' (bnew y3 (.cells (cfgc (cutC c) A2 cap2).toArray 35))); have HRA := Lib.hid (HRR.out.below (bnew y3 (.cells (cfgc (cutC c) A2 cap2).toArray 35))); have HRX := Lib.hid (HR3.out.below (bnew y3 (.cells (cfgc (cutC c) A2 cap2).toArray 35)))))
      | ((with_reducible refine at_dst 15 ?_); (refine wpList_load_cells rfl 35 _ rfl y3.heap.size 0 (cfgc (cutC c) A2 cap2) rfl _ Try.underlying35 rfl info35 (fun j u hu => ?_) ?_; (rw [Nat.zero_add, HXA.out.cell, List.getElem?_toArray]; exact hu)))
      | (go_at_call 37; ((refine (Next_any (cutC c) m g2 cap2 A2 _ HRX.out HCM.out).mono ?_); (rintro e y4 ⟨he, hb4⟩; rw [Next_ref, HQ.out, HQN.out] at he; subst he; have HB4 := Lib.hid (HBA.out.trans' hb4); have HP4 := Lib.hid (HPA.out.below hb4); have HX4 := Lib.hid (HXA.out.below hb4); have HR4 := Lib.hid (HRA.out.below hb4); have HRX4 := Lib.hid (HRX.out.below hb4); clear hb4)))
      | ((with_reducible refine at_dst 20 ?_); (refine wpList_load_cells rfl 24 _ rfl w.heap.size 0 (cfgc (cutC c) A1 cap1) rfl _ Try.underlying24 rfl info24' (fun j u hu => ?_) ?_; (rw [Nat.zero_add, HP4.out.cell, List.getElem?_toArray]; exact hu)))
      | (go_at_call 38; ((refine (refnext_any (cutC c) m g1 cap1 A1 _ HR4.out HCM.out).mono ?_); (rintro e y5 ⟨he, hb5⟩; rw [HQ.out] at he; subst he; have HB5 := Lib.hid (HB4.out.trans' hb5); have HX5 := Lib.hid (HX4.out.below hb5); have HRX5 := Lib.hid (HRX4.out.below hb5); clear hb5)))
      | (go_at_call 17; ((refine (known_any _).mono ?_); (rintro e y6 ⟨he, hb6⟩; subst he; have HB6 := Lib.hid (HB5.out.trans' hb6); have HX6 := Lib.hid (HX5.out.below hb6); have HRX6 := Lib.hid (HRX5.out.below hb6); clear hb6)))
      | fail)
    go_loopw [9] (fun iv wr => ∃ k : Nat, k ≤ 200 ∧ iv = .int .i64 k ∧ Hid (Below y6.heap.size y6 wr)) (fun iv _ => 200 - (intOf iv).toNat)
    case atStart => exact ⟨0, by omega, rfl, Lib.hid (Below.refl _ _)⟩
    case round =>
      obtain ⟨k, hk, rfl, HBR⟩ := hrel
      have HXR := Lib.hid (HX6.out.below HBR.out)
      have HRR2 := Lib.hid (HRX6.out.below HBR.out)
      have HBR2 := Lib.hid (HB6.out.trans' HBR.out)
      by_cases hlt : k < 200
      · by_cases hkn : 0 + (k : Int) < q
        · have hcf := HLAW.out.2 (0 + k) (by omega) hkn
          have HCF := Lib.hid hcf
          have hmb : 0 + (k : Int) ≤ 9223372036854775807 := by omega
          have HMB := Lib.hid hmb
          clear hcf hmb
          go_wp2_with (first
            | ((with_reducible refine at_dst 52 ?_); (refine wpList_load_cells rfl 35 _ rfl y3.heap.size 0 (cfgc (cutC c) A2 cap2) rfl _ Try.underlying35 rfl info35 (fun j u hu => ?_) ?_; (rw [Nat.zero_add, HXR.out.cell, List.getElem?_toArray]; exact hu)))
            | (go_at_call 34; ((refine (connected_any (cutC c) _ g2 cap2 A2 _ HRR2.out HCM.out (by have := HMB.out; omega)).mono ?_); (rintro e y7 ⟨he, hb7⟩; (try rw [Int.zero_add] at HCF); rw [HCF.out] at he; subst he; have HB7 := Lib.hid hb7; clear hb7))))
          go_roundw
          case rel => exact ⟨k + 1, by omega, by go_num, Lib.hid (HBR.out.trans' HB7.out)⟩
          case measure => simp [intOf]; omega
        · go_wp2_with (first
            | ((with_reducible refine at_dst 61 ?_); (refine wpList_wanted (by first | (simp [Region.wanted, yielded]; done) | (simp [Region.wanted, yielded]; omega)) fun _ hK => wp_load_cells 35 _ rfl y3.heap.size 0 (cfgc (cutC c) A2 cap2) rfl _ Try.underlying35 rfl info35 (fun j u hu => by rw [Nat.zero_add, HXR.out.cell, List.getElem?_toArray]; exact hu) (hK _ _ ?_)))
            | (go_at_call 34; ((refine (connected_any (cutC c) q g2 cap2 A2 _ HRR2.out HCM.out HQB.out).mono ?_); (rintro e y7 ⟨he, hb7⟩; rw [HLAW.out.1] at he; subst he; have HB7 := Lib.hid hb7; clear hb7))))
          go_ret
          exact ⟨rfl, HBR2.out.trans' HB7.out⟩
      · go_wp2_with (first
          | ((with_reducible refine at_dst 61 ?_); (refine wpList_wanted (by first | (simp [Region.wanted, yielded]; done) | (simp [Region.wanted, yielded]; omega)) fun _ hK => wp_load_cells 35 _ rfl y3.heap.size 0 (cfgc (cutC c) A2 cap2) rfl _ Try.underlying35 rfl info35 (fun j u hu => by rw [Nat.zero_add, HXR.out.cell, List.getElem?_toArray]; exact hu) (hK _ _ ?_)))
          | (go_at_call 34; ((refine (connected_any (cutC c) q g2 cap2 A2 _ HRR2.out HCM.out HQB.out).mono ?_); (rintro e y7 ⟨he, hb7⟩; rw [HLAW.out.1] at he; subst he; have HB7 := Lib.hid hb7; clear hb7))))
        go_ret
        exact ⟨rfl, HBR2.out.trans' HB7.out⟩
theorem lineNext_any (c : Cfg) (m : Int) (g cap : Nat) (A : Option Addr) (w : World) (hr : Rd w g 2 A c.ws.length (c.ws.flatMap winc)) (hc : c.ws.length ≤ cap) (hl : cap ≤ maxLen) :
    Calls Try.prog 8 #[.agg (cfgc c A cap).toArray, .int .i64 m] w fun e w' => e = .returned (.bool true) ∧ Below w.heap.size w w' := by
  rcases (by omega : refNextC (cutC c) m < 0 ∨ 0 ≤ refNextC (cutC c) m) with h | h
  · exact lineNext_none c m _ g cap A w hr hc hl rfl h
  · exact lineNext_some c m _ g cap A w hr hc hl rfl h
end Go.Proofs.Ytnddahajfcmkiaa
