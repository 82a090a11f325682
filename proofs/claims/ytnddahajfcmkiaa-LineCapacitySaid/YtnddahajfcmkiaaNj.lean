/- LineCapacity's walk. Conditions: none. -/
import Derived.Test.YtnddahajfcmkiaaPt
namespace Go.Proofs.Ytnddahajfcmkiaa
set_option linter.unusedSimpArgs false
set_option linter.unusedVariables false
set_option linter.unnecessarySimpa false
open Go.RowKit
set_option maxRecDepth 20000 in
set_option maxHeartbeats 8000000 in
theorem cap_neg (c : Cfg) (f n : Int) (g cap : Nat) (A : Option Addr) (w : World) (hr : Rd w g 2 A c.ws.length (c.ws.flatMap winc)) (hc : c.ws.length ≤ cap) (hl : cap ≤ maxLen) (hf : f < 0) :
    Calls Try.prog 9 #[.agg (cfgc c A cap).toArray, .int .i64 f, .int .i64 n] w fun e w' => e = .returned (.bool true) ∧ Below w.heap.size w w' := by
  obtain ⟨K, hK⟩ : ∃ K, chkC (cutC c) = K := ⟨_, rfl⟩
  have HK := Lib.hid hK
  clear hK
  have HR := Lib.hid hr
  have HCL := Lib.hid (And.intro hc hl)
  have HCM : Hid ((cutC c).ws.length ≤ maxLen) := Lib.hid (Nat.le_trans (cut_len c) (by unfold maxLen; omega))
  have HP := Lib.hid (Blk.new w 24 (cfgc c A cap).toArray)
  have HB := Lib.hid (bnew w (.cells (cfgc c A cap).toArray 24))
  clear hr hc hl
  rcases (by omega : 500 < n ∨ (n ≤ 500 ∧ 0 ≤ n) ∨ n < 0) with h1 | ⟨h1, h2⟩ | h1
  · have h3 : 0 ≤ n % 500 := by omega
    go_enter Try.func9, Try.ntmps9
    go_wp2_with (first
      | ((with_reducible refine at_dst 11 ?_); (refine wpList_load_cells rfl 24 _ rfl w.heap.size 0 (cfgc c A cap) rfl _ Try.underlying24 rfl info24' (fun j u hu => ?_) ?_; (rw [Nat.zero_add, HP.out.cell, List.getElem?_toArray]; exact hu)))
      | (go_at_call 14; ((refine (cut_at c g cap A _ (HR.out.below HB.out) HCL.out.1 HCL.out.2).mono ?_); (rintro e y1 ⟨A1, cap1, g1, he, h1, h2, h4, h3⟩; subst he; have HR1 := Lib.hid h1; have HC1 := Lib.hid h2; have HG1 : Hid (0 < (cutC c).ws.length → w.heap.size < g1) := Lib.hid (fun h => by have := h4 h; simp at this; omega); have HB1 := Lib.hid (HB.out.trans' h3); have HP1 := Lib.hid (HP.out.below h3); clear h1 h2 h3 h4)))
      | ((with_reducible refine at_store 24 3 ?_); (refine wpList_store_blk rfl 24 (.tmp 3) (.tmp 12) rfl w.heap.size 0 24 (cfgc c A cap) (cfgc (cutC c) A1 cap1) HP1.out (by rfl) (by rfl) info24' (by simp [cfgc]) (by simp [cfgc, Value.oneCell']) ?_; intro y2 hb2 hg2 hs2; have HP2 : Hid (Blk y2 w.heap.size 24 (cfgc (cutC c) A1 cap1).toArray) := Lib.hid (by simpa [cfgc] using hb2); have HB2 := Lib.hid (HB1.out.grown hg2 HB1.out.size (fun x hx => by simp at hx; omega)); have HR2 := Lib.hid (rd_off HR1.out hg2 (fun h => by have := HG1.out h; omega)); clear hb2 hg2 hs2))
      | ((with_reducible refine at_dst 13 ?_); (refine wpList_load_cells rfl 24 _ rfl w.heap.size 0 (cfgc (cutC c) A1 cap1) rfl _ Try.underlying24 rfl info24' (fun j u hu => ?_) ?_; (rw [Nat.zero_add, HP2.out.cell, List.getElem?_toArray]; exact hu)))
      | (go_at_call 16; ((refine (config_any (cutC c) g1 cap1 A1 _ HR2.out HCM.out).mono ?_); (rintro e y3 ⟨A2, cap2, g2, he, h1, h2, h4, h3⟩; rw [cut_idem] at he h1 h2 h4; subst he; have HR3 := Lib.hid h1; have HC3 := Lib.hid h2; have HB3 := Lib.hid (HB2.out.trans' h3); have HP3 := Lib.hid (HP2.out.below h3); have HRR := Lib.hid (HR2.out.below h3); clear h1 h2 h3 h4)))
      | ((with_reducible refine at_dst 7 ?_); (refine wpList_var 35 (cfgc (cutC c) A2 cap2) _ Try.underlying35 z35 info35z rfl (by simp [cfgc, Value.oneCell']) (by simp [Act.put]) rfl ?_; have HPA := Lib.hid (HP3.out.alloc (.cells (cfgc (cutC c) A2 cap2).toArray 35)); have HXA := Lib.hid (Blk.new y3 35 (cfgc (cutC c) A2 cap2).toArray); have HBA := Lib.hid (HB3.out.trans' (bnew y3 (.cells (cfgc (cutC c) A2 cap2).toArray 35))); have HRA := Lib.hid (HRR.out.below (bnew y3 (.cells (cfgc (cutC c) A2 cap2).toArray 35))); have HRX := Lib.hid (HR3.out.below (bnew y3 (.cells (cfgc (cutC c) A2 cap2).toArray 35)))))
      | (go_at_call 17; ((refine (known_any _).mono ?_); (rintro e y4 ⟨he, hb4⟩; subst he; have HB4 := Lib.hid (HBA.out.trans' hb4); have HP4 := Lib.hid (HPA.out.below hb4); have HX4 := Lib.hid (HXA.out.below hb4); have HR4 := Lib.hid (HRA.out.below hb4); have HRX4 := Lib.hid (HRX.out.below hb4); clear hb4)))
      | ((with_reducible refine at_dst 38 ?_); (refine wpList_wanted (by first | (simp [Region.wanted, yielded]; done) | (simp [Region.wanted, yielded]; omega)) fun _ hK => wp_load_cells 24 _ rfl w.heap.size 0 (cfgc (cutC c) A1 cap1) rfl _ Try.underlying24 rfl info24' (fun j u hu => by rw [Nat.zero_add, HP4.out.cell, List.getElem?_toArray]; exact hu) (hK _ _ ?_)))
      | (go_at_call 32; ((refine (refcheck_any (cutC c) g1 A1 cap1 _ HR4.out HCM.out).mono ?_); (rintro e y5 ⟨he, hb5⟩; rw [HK.out] at he; subst he; have HB5 := Lib.hid (HB4.out.trans' hb5); have HP5 := Lib.hid (HP4.out.below hb5); have HX5 := Lib.hid (HX4.out.below hb5); have HR5 := Lib.hid (HR4.out.below hb5); have HRX5 := Lib.hid (HRX4.out.below hb5); clear hb5)))
      | ((with_reducible refine at_dst 60 ?_); (refine wpList_load_cells rfl 35 _ rfl y3.heap.size 0 (cfgc (cutC c) A2 cap2) rfl _ Try.underlying35 rfl info35 (fun j u hu => ?_) ?_; (rw [Nat.zero_add, HX4.out.cell, List.getElem?_toArray]; exact hu)))
      | (go_at_call 39; ((refine (capacity_bad (cutC c) _ _ g2 cap2 A2 _ HRX4.out HCM.out ?hbad).mono ?_); (case hbad => (exact .inl (by assumption))); (rintro e y6 ⟨he, hb6⟩; subst he; have HB6 := Lib.hid (HB4.out.trans' hb6); clear hb6))))
    all_goals
      go_ret
      exact ⟨rfl, HB6.out⟩
  · go_enter Try.func9, Try.ntmps9
    go_wp2_with (first
      | ((with_reducible refine at_dst 11 ?_); (refine wpList_load_cells rfl 24 _ rfl w.heap.size 0 (cfgc c A cap) rfl _ Try.underlying24 rfl info24' (fun j u hu => ?_) ?_; (rw [Nat.zero_add, HP.out.cell, List.getElem?_toArray]; exact hu)))
      | (go_at_call 14; ((refine (cut_at c g cap A _ (HR.out.below HB.out) HCL.out.1 HCL.out.2).mono ?_); (rintro e y1 ⟨A1, cap1, g1, he, h1, h2, h4, h3⟩; subst he; have HR1 := Lib.hid h1; have HC1 := Lib.hid h2; have HG1 : Hid (0 < (cutC c).ws.length → w.heap.size < g1) := Lib.hid (fun h => by have := h4 h; simp at this; omega); have HB1 := Lib.hid (HB.out.trans' h3); have HP1 := Lib.hid (HP.out.below h3); clear h1 h2 h3 h4)))
      | ((with_reducible refine at_store 24 3 ?_); (refine wpList_store_blk rfl 24 (.tmp 3) (.tmp 12) rfl w.heap.size 0 24 (cfgc c A cap) (cfgc (cutC c) A1 cap1) HP1.out (by rfl) (by rfl) info24' (by simp [cfgc]) (by simp [cfgc, Value.oneCell']) ?_; intro y2 hb2 hg2 hs2; have HP2 : Hid (Blk y2 w.heap.size 24 (cfgc (cutC c) A1 cap1).toArray) := Lib.hid (by simpa [cfgc] using hb2); have HB2 := Lib.hid (HB1.out.grown hg2 HB1.out.size (fun x hx => by simp at hx; omega)); have HR2 := Lib.hid (rd_off HR1.out hg2 (fun h => by have := HG1.out h; omega)); clear hb2 hg2 hs2))
      | ((with_reducible refine at_dst 13 ?_); (refine wpList_load_cells rfl 24 _ rfl w.heap.size 0 (cfgc (cutC c) A1 cap1) rfl _ Try.underlying24 rfl info24' (fun j u hu => ?_) ?_; (rw [Nat.zero_add, HP2.out.cell, List.getElem?_toArray]; exact hu)))
      | (go_at_call 16; ((refine (config_any (cutC c) g1 cap1 A1 _ HR2.out HCM.out).mono ?_); (rintro e y3 ⟨A2, cap2, g2, he, h1, h2, h4, h3⟩; rw [cut_idem] at he h1 h2 h4; subst he; have HR3 := Lib.hid h1; have HC3 := Lib.hid h2; have HB3 := Lib.hid (HB2.out.trans' h3); have HP3 := Lib.hid (HP2.out.below h3); have HRR := Lib.hid (HR2.out.below h3); clear h1 h2 h3 h4)))
      | ((with_reducible refine at_dst 7 ?_); (refine wpList_var 35 (cfgc (cutC c) A2 cap2) _ Try.underlying35 z35 info35z rfl (by simp [cfgc, Value.oneCell']) (by simp [Act.put]) rfl ?_; have HPA := Lib.hid (HP3.out.alloc (.cells (cfgc (cutC c) A2 cap2).toArray 35)); have HXA := Lib.hid (Blk.new y3 35 (cfgc (cutC c) A2 cap2).toArray); have HBA := Lib.hid (HB3.out.trans' (bnew y3 (.cells (cfgc (cutC c) A2 cap2).toArray 35))); have HRA := Lib.hid (HRR.out.below (bnew y3 (.cells (cfgc (cutC c) A2 cap2).toArray 35))); have HRX := Lib.hid (HR3.out.below (bnew y3 (.cells (cfgc (cutC c) A2 cap2).toArray 35)))))
      | (go_at_call 17; ((refine (known_any _).mono ?_); (rintro e y4 ⟨he, hb4⟩; subst he; have HB4 := Lib.hid (HBA.out.trans' hb4); have HP4 := Lib.hid (HPA.out.below hb4); have HX4 := Lib.hid (HXA.out.below hb4); have HR4 := Lib.hid (HRA.out.below hb4); have HRX4 := Lib.hid (HRX.out.below hb4); clear hb4)))
      | ((with_reducible refine at_dst 38 ?_); (refine wpList_wanted (by first | (simp [Region.wanted, yielded]; done) | (simp [Region.wanted, yielded]; omega)) fun _ hK => wp_load_cells 24 _ rfl w.heap.size 0 (cfgc (cutC c) A1 cap1) rfl _ Try.underlying24 rfl info24' (fun j u hu => by rw [Nat.zero_add, HP4.out.cell, List.getElem?_toArray]; exact hu) (hK _ _ ?_)))
      | (go_at_call 32; ((refine (refcheck_any (cutC c) g1 A1 cap1 _ HR4.out HCM.out).mono ?_); (rintro e y5 ⟨he, hb5⟩; rw [HK.out] at he; subst he; have HB5 := Lib.hid (HB4.out.trans' hb5); have HP5 := Lib.hid (HP4.out.below hb5); have HX5 := Lib.hid (HX4.out.below hb5); have HR5 := Lib.hid (HR4.out.below hb5); have HRX5 := Lib.hid (HRX4.out.below hb5); clear hb5)))
      | ((with_reducible refine at_dst 60 ?_); (refine wpList_load_cells rfl 35 _ rfl y3.heap.size 0 (cfgc (cutC c) A2 cap2) rfl _ Try.underlying35 rfl info35 (fun j u hu => ?_) ?_; (rw [Nat.zero_add, HX4.out.cell, List.getElem?_toArray]; exact hu)))
      | (go_at_call 39; ((refine (capacity_bad (cutC c) _ _ g2 cap2 A2 _ HRX4.out HCM.out ?hbad).mono ?_); (case hbad => (exact .inl (by assumption))); (rintro e y6 ⟨he, hb6⟩; subst he; have HB6 := Lib.hid (HB4.out.trans' hb6); clear hb6))))
    all_goals
      go_ret
      exact ⟨rfl, HB6.out⟩
  · go_enter Try.func9, Try.ntmps9
    go_wp2_with (first
      | ((with_reducible refine at_dst 11 ?_); (refine wpList_load_cells rfl 24 _ rfl w.heap.size 0 (cfgc c A cap) rfl _ Try.underlying24 rfl info24' (fun j u hu => ?_) ?_; (rw [Nat.zero_add, HP.out.cell, List.getElem?_toArray]; exact hu)))
      | (go_at_call 14; ((refine (cut_at c g cap A _ (HR.out.below HB.out) HCL.out.1 HCL.out.2).mono ?_); (rintro e y1 ⟨A1, cap1, g1, he, h1, h2, h4, h3⟩; subst he; have HR1 := Lib.hid h1; have HC1 := Lib.hid h2; have HG1 : Hid (0 < (cutC c).ws.length → w.heap.size < g1) := Lib.hid (fun h => by have := h4 h; simp at this; omega); have HB1 := Lib.hid (HB.out.trans' h3); have HP1 := Lib.hid (HP.out.below h3); clear h1 h2 h3 h4)))
      | ((with_reducible refine at_store 24 3 ?_); (refine wpList_store_blk rfl 24 (.tmp 3) (.tmp 12) rfl w.heap.size 0 24 (cfgc c A cap) (cfgc (cutC c) A1 cap1) HP1.out (by rfl) (by rfl) info24' (by simp [cfgc]) (by simp [cfgc, Value.oneCell']) ?_; intro y2 hb2 hg2 hs2; have HP2 : Hid (Blk y2 w.heap.size 24 (cfgc (cutC c) A1 cap1).toArray) := Lib.hid (by simpa [cfgc] using hb2); have HB2 := Lib.hid (HB1.out.grown hg2 HB1.out.size (fun x hx => by simp at hx; omega)); have HR2 := Lib.hid (rd_off HR1.out hg2 (fun h => by have := HG1.out h; omega)); clear hb2 hg2 hs2))
      | ((with_reducible refine at_dst 13 ?_); (refine wpList_load_cells rfl 24 _ rfl w.heap.size 0 (cfgc (cutC c) A1 cap1) rfl _ Try.underlying24 rfl info24' (fun j u hu => ?_) ?_; (rw [Nat.zero_add, HP2.out.cell, List.getElem?_toArray]; exact hu)))
      | (go_at_call 16; ((refine (config_any (cutC c) g1 cap1 A1 _ HR2.out HCM.out).mono ?_); (rintro e y3 ⟨A2, cap2, g2, he, h1, h2, h4, h3⟩; rw [cut_idem] at he h1 h2 h4; subst he; have HR3 := Lib.hid h1; have HC3 := Lib.hid h2; have HB3 := Lib.hid (HB2.out.trans' h3); have HP3 := Lib.hid (HP2.out.below h3); have HRR := Lib.hid (HR2.out.below h3); clear h1 h2 h3 h4)))
      | ((with_reducible refine at_dst 7 ?_); (refine wpList_var 35 (cfgc (cutC c) A2 cap2) _ Try.underlying35 z35 info35z rfl (by simp [cfgc, Value.oneCell']) (by simp [Act.put]) rfl ?_; have HPA := Lib.hid (HP3.out.alloc (.cells (cfgc (cutC c) A2 cap2).toArray 35)); have HXA := Lib.hid (Blk.new y3 35 (cfgc (cutC c) A2 cap2).toArray); have HBA := Lib.hid (HB3.out.trans' (bnew y3 (.cells (cfgc (cutC c) A2 cap2).toArray 35))); have HRA := Lib.hid (HRR.out.below (bnew y3 (.cells (cfgc (cutC c) A2 cap2).toArray 35))); have HRX := Lib.hid (HR3.out.below (bnew y3 (.cells (cfgc (cutC c) A2 cap2).toArray 35)))))
      | (go_at_call 17; ((refine (known_any _).mono ?_); (rintro e y4 ⟨he, hb4⟩; subst he; have HB4 := Lib.hid (HBA.out.trans' hb4); have HP4 := Lib.hid (HPA.out.below hb4); have HX4 := Lib.hid (HXA.out.below hb4); have HR4 := Lib.hid (HRA.out.below hb4); have HRX4 := Lib.hid (HRX.out.below hb4); clear hb4)))
      | ((with_reducible refine at_dst 38 ?_); (refine wpList_wanted (by first | (simp [Region.wanted, yielded]; done) | (simp [Region.wanted, yielded]; omega)) fun _ hK => wp_load_cells 24 _ rfl w.heap.size 0 (cfgc (cutC c) A1 cap1) rfl _ Try.underlying24 rfl info24' (fun j u hu => by rw [Nat.zero_add, HP4.out.cell, List.getElem?_toArray]; exact hu) (hK _ _ ?_)))
      | (go_at_call 32; ((refine (refcheck_any (cutC c) g1 A1 cap1 _ HR4.out HCM.out).mono ?_); (rintro e y5 ⟨he, hb5⟩; rw [HK.out] at he; subst he; have HB5 := Lib.hid (HB4.out.trans' hb5); have HP5 := Lib.hid (HP4.out.below hb5); have HX5 := Lib.hid (HX4.out.below hb5); have HR5 := Lib.hid (HR4.out.below hb5); have HRX5 := Lib.hid (HRX4.out.below hb5); clear hb5)))
      | ((with_reducible refine at_dst 60 ?_); (refine wpList_load_cells rfl 35 _ rfl y3.heap.size 0 (cfgc (cutC c) A2 cap2) rfl _ Try.underlying35 rfl info35 (fun j u hu => ?_) ?_; (rw [Nat.zero_add, HX4.out.cell, List.getElem?_toArray]; exact hu)))
      | (go_at_call 39; ((refine (capacity_bad (cutC c) _ _ g2 cap2 A2 _ HRX4.out HCM.out ?hbad).mono ?_); (case hbad => (exact .inl (by assumption))); (rintro e y6 ⟨he, hb6⟩; subst he; have HB6 := Lib.hid (HB4.out.trans' hb6); clear hb6))))
    all_goals
      go_ret
      exact ⟨rfl, HB6.out⟩
theorem tmod_1000 {n : Int} (h : n < 0) : -1000 < n.tmod 1000 ∧ n.tmod 1000 ≤ 0 := by
  have h1 : n.tmod 1000 = -((-n) % 1000) := by
    have : n.tmod 1000 = -((-n).tmod 1000) := by rw [Int.neg_tmod]; omega
    rw [this, Int.tmod_eq_emod_of_nonneg (by omega)]
  have h2 : 0 ≤ (-n) % 1000 := Int.emod_nonneg _ (by omega)
  have h3 : (-n) % 1000 < 1000 := Int.emod_lt_of_pos _ (by omega)
  omega
set_option maxRecDepth 20000 in
set_option maxHeartbeats 8000000 in
theorem cap_short (c : Cfg) (f n : Int) (g cap : Nat) (A : Option Addr) (w : World) (hr : Rd w g 2 A c.ws.length (c.ws.flatMap winc)) (hc : c.ws.length ≤ cap) (hl : cap ≤ maxLen) (hf : 0 ≤ f) (hn : n < 0) :
    Calls Try.prog 9 #[.agg (cfgc c A cap).toArray, .int .i64 f, .int .i64 n] w fun e w' => e = .returned (.bool true) ∧ Below w.heap.size w w' := by
  obtain ⟨K, hK⟩ : ∃ K, chkC (cutC c) = K := ⟨_, rfl⟩
  have HK := Lib.hid hK
  obtain ⟨t0, t1⟩ := tmod_1000 hn
  obtain ⟨t, ht⟩ : ∃ t, n.tmod 1000 = t := ⟨_, rfl⟩
  rw [ht] at t0 t1
  clear hK
  have HR := Lib.hid hr
  have HCL := Lib.hid (And.intro hc hl)
  have HCM : Hid ((cutC c).ws.length ≤ maxLen) := Lib.hid (Nat.le_trans (cut_len c) (by unfold maxLen; omega))
  have HP := Lib.hid (Blk.new w 24 (cfgc c A cap).toArray)
  have HB := Lib.hid (bnew w (.cells (cfgc c A cap).toArray 24))
  clear hr hc hl
  rcases (by omega : 0 < f ∨ (f = 0 ∧ t < 0) ∨ (f = 0 ∧ t = 0)) with h1 | ⟨rfl, h1⟩ | ⟨rfl, rfl⟩
  · go_enter Try.func9, Try.ntmps9
    go_wp2_with (first
      | ((with_reducible refine at_dst 11 ?_); (refine wpList_load_cells rfl 24 _ rfl w.heap.size 0 (cfgc c A cap) rfl _ Try.underlying24 rfl info24' (fun j u hu => ?_) ?_; (rw [Nat.zero_add, HP.out.cell, List.getElem?_toArray]; exact hu)))
      | (go_at_call 14; ((refine (cut_at c g cap A _ (HR.out.below HB.out) HCL.out.1 HCL.out.2).mono ?_); (rintro e y1 ⟨A1, cap1, g1, he, h1, h2, h4, h3⟩; subst he; have HR1 := Lib.hid h1; have HC1 := Lib.hid h2; have HG1 : Hid (0 < (cutC c).ws.length → w.heap.size < g1) := Lib.hid (fun h => by have := h4 h; simp at this; omega); have HB1 := Lib.hid (HB.out.trans' h3); have HP1 := Lib.hid (HP.out.below h3); clear h1 h2 h3 h4)))
      | ((with_reducible refine at_store 24 3 ?_); (refine wpList_store_blk rfl 24 (.tmp 3) (.tmp 12) rfl w.heap.size 0 24 (cfgc c A cap) (cfgc (cutC c) A1 cap1) HP1.out (by rfl) (by rfl) info24' (by simp [cfgc]) (by simp [cfgc, Value.oneCell']) ?_; intro y2 hb2 hg2 hs2; have HP2 : Hid (Blk y2 w.heap.size 24 (cfgc (cutC c) A1 cap1).toArray) := Lib.hid (by simpa [cfgc] using hb2); have HB2 := Lib.hid (HB1.out.grown hg2 HB1.out.size (fun x hx => by simp at hx; omega)); have HR2 := Lib.hid (rd_off HR1.out hg2 (fun h => by have := HG1.out h; omega)); clear hb2 hg2 hs2))
      | ((with_reducible refine at_dst 13 ?_); (refine wpList_load_cells rfl 24 _ rfl w.heap.size 0 (cfgc (cutC c) A1 cap1) rfl _ Try.underlying24 rfl info24' (fun j u hu => ?_) ?_; (rw [Nat.zero_add, HP2.out.cell, List.getElem?_toArray]; exact hu)))
      | (go_at_call 16; ((refine (config_any (cutC c) g1 cap1 A1 _ HR2.out HCM.out).mono ?_); (rintro e y3 ⟨A2, cap2, g2, he, h1, h2, h4, h3⟩; rw [cut_idem] at he h1 h2 h4; subst he; have HR3 := Lib.hid h1; have HC3 := Lib.hid h2; have HB3 := Lib.hid (HB2.out.trans' h3); have HP3 := Lib.hid (HP2.out.below h3); have HRR := Lib.hid (HR2.out.below h3); clear h1 h2 h3 h4)))
      | ((with_reducible refine at_dst 7 ?_); (refine wpList_var 35 (cfgc (cutC c) A2 cap2) _ Try.underlying35 z35 info35z rfl (by simp [cfgc, Value.oneCell']) (by simp [Act.put]) rfl ?_; have HPA := Lib.hid (HP3.out.alloc (.cells (cfgc (cutC c) A2 cap2).toArray 35)); have HXA := Lib.hid (Blk.new y3 35 (cfgc (cutC c) A2 cap2).toArray); have HBA := Lib.hid (HB3.out.trans' (bnew y3 (.cells (cfgc (cutC c) A2 cap2).toArray 35))); have HRA := Lib.hid (HRR.out.below (bnew y3 (.cells (cfgc (cutC c) A2 cap2).toArray 35))); have HRX := Lib.hid (HR3.out.below (bnew y3 (.cells (cfgc (cutC c) A2 cap2).toArray 35)))))
      | (go_at_call 17; ((refine (known_any _).mono ?_); (rintro e y4 ⟨he, hb4⟩; subst he; have HB4 := Lib.hid (HBA.out.trans' hb4); have HP4 := Lib.hid (HPA.out.below hb4); have HX4 := Lib.hid (HXA.out.below hb4); have HR4 := Lib.hid (HRA.out.below hb4); have HRX4 := Lib.hid (HRX.out.below hb4); clear hb4)))
      | ((with_reducible refine at_dst 38 ?_); (refine wpList_wanted (by first | (simp [Region.wanted, yielded]; done) | (simp [Region.wanted, yielded]; omega)) fun _ hK => wp_load_cells 24 _ rfl w.heap.size 0 (cfgc (cutC c) A1 cap1) rfl _ Try.underlying24 rfl info24' (fun j u hu => by rw [Nat.zero_add, HP4.out.cell, List.getElem?_toArray]; exact hu) (hK _ _ ?_)))
      | (go_at_call 32; ((refine (refcheck_any (cutC c) g1 A1 cap1 _ HR4.out HCM.out).mono ?_); (rintro e y5 ⟨he, hb5⟩; rw [HK.out] at he; subst he; have HB5 := Lib.hid (HB4.out.trans' hb5); have HP5 := Lib.hid (HP4.out.below hb5); have HX5 := Lib.hid (HX4.out.below hb5); have HR5 := Lib.hid (HR4.out.below hb5); have HRX5 := Lib.hid (HRX4.out.below hb5); clear hb5)))
      | ((with_reducible refine at_dst 60 ?_); (refine wpList_load_cells rfl 35 _ rfl y3.heap.size 0 (cfgc (cutC c) A2 cap2) rfl _ Try.underlying35 rfl info35 (fun j u hu => ?_) ?_; (rw [Nat.zero_add, HX4.out.cell, List.getElem?_toArray]; exact hu)))
      | (go_at_call 39; ((refine (capacity_bad (cutC c) _ _ g2 cap2 A2 _ HRX4.out HCM.out ?hbad).mono ?_); (case hbad => (exact .inr (.inl (by omega)))); (rintro e y6 ⟨he, hb6⟩; subst he; have HB6 := Lib.hid (HB4.out.trans' hb6); clear hb6))))
    all_goals
      go_ret
      exact ⟨rfl, HB6.out⟩
  · go_enter Try.func9, Try.ntmps9
    go_wp2_with (first
      | ((with_reducible refine at_dst 11 ?_); (refine wpList_load_cells rfl 24 _ rfl w.heap.size 0 (cfgc c A cap) rfl _ Try.underlying24 rfl info24' (fun j u hu => ?_) ?_; (rw [Nat.zero_add, HP.out.cell, List.getElem?_toArray]; exact hu)))
      | (go_at_call 14; ((refine (cut_at c g cap A _ (HR.out.below HB.out) HCL.out.1 HCL.out.2).mono ?_); (rintro e y1 ⟨A1, cap1, g1, he, h1, h2, h4, h3⟩; subst he; have HR1 := Lib.hid h1; have HC1 := Lib.hid h2; have HG1 : Hid (0 < (cutC c).ws.length → w.heap.size < g1) := Lib.hid (fun h => by have := h4 h; simp at this; omega); have HB1 := Lib.hid (HB.out.trans' h3); have HP1 := Lib.hid (HP.out.below h3); clear h1 h2 h3 h4)))
      | ((with_reducible refine at_store 24 3 ?_); (refine wpList_store_blk rfl 24 (.tmp 3) (.tmp 12) rfl w.heap.size 0 24 (cfgc c A cap) (cfgc (cutC c) A1 cap1) HP1.out (by rfl) (by rfl) info24' (by simp [cfgc]) (by simp [cfgc, Value.oneCell']) ?_; intro y2 hb2 hg2 hs2; have HP2 : Hid (Blk y2 w.heap.size 24 (cfgc (cutC c) A1 cap1).toArray) := Lib.hid (by simpa [cfgc] using hb2); have HB2 := Lib.hid (HB1.out.grown hg2 HB1.out.size (fun x hx => by simp at hx; omega)); have HR2 := Lib.hid (rd_off HR1.out hg2 (fun h => by have := HG1.out h; omega)); clear hb2 hg2 hs2))
      | ((with_reducible refine at_dst 13 ?_); (refine wpList_load_cells rfl 24 _ rfl w.heap.size 0 (cfgc (cutC c) A1 cap1) rfl _ Try.underlying24 rfl info24' (fun j u hu => ?_) ?_; (rw [Nat.zero_add, HP2.out.cell, List.getElem?_toArray]; exact hu)))
      | (go_at_call 16; ((refine (config_any (cutC c) g1 cap1 A1 _ HR2.out HCM.out).mono ?_); (rintro e y3 ⟨A2, cap2, g2, he, h1, h2, h4, h3⟩; rw [cut_idem] at he h1 h2 h4; subst he; have HR3 := Lib.hid h1; have HC3 := Lib.hid h2; have HB3 := Lib.hid (HB2.out.trans' h3); have HP3 := Lib.hid (HP2.out.below h3); have HRR := Lib.hid (HR2.out.below h3); clear h1 h2 h3 h4)))
      | ((with_reducible refine at_dst 7 ?_); (refine wpList_var 35 (cfgc (cutC c) A2 cap2) _ Try.underlying35 z35 info35z rfl (by simp [cfgc, Value.oneCell']) (by simp [Act.put]) rfl ?_; have HPA := Lib.hid (HP3.out.alloc (.cells (cfgc (cutC c) A2 cap2).toArray 35)); have HXA := Lib.hid (Blk.new y3 35 (cfgc (cutC c) A2 cap2).toArray); have HBA := Lib.hid (HB3.out.trans' (bnew y3 (.cells (cfgc (cutC c) A2 cap2).toArray 35))); have HRA := Lib.hid (HRR.out.below (bnew y3 (.cells (cfgc (cutC c) A2 cap2).toArray 35))); have HRX := Lib.hid (HR3.out.below (bnew y3 (.cells (cfgc (cutC c) A2 cap2).toArray 35)))))
      | (go_at_call 17; ((refine (known_any _).mono ?_); (rintro e y4 ⟨he, hb4⟩; subst he; have HB4 := Lib.hid (HBA.out.trans' hb4); have HP4 := Lib.hid (HPA.out.below hb4); have HX4 := Lib.hid (HXA.out.below hb4); have HR4 := Lib.hid (HRA.out.below hb4); have HRX4 := Lib.hid (HRX.out.below hb4); clear hb4)))
      | ((with_reducible refine at_dst 38 ?_); (refine wpList_wanted (by first | (simp [Region.wanted, yielded]; done) | (simp [Region.wanted, yielded]; omega)) fun _ hK => wp_load_cells 24 _ rfl w.heap.size 0 (cfgc (cutC c) A1 cap1) rfl _ Try.underlying24 rfl info24' (fun j u hu => by rw [Nat.zero_add, HP4.out.cell, List.getElem?_toArray]; exact hu) (hK _ _ ?_)))
      | (go_at_call 32; ((refine (refcheck_any (cutC c) g1 A1 cap1 _ HR4.out HCM.out).mono ?_); (rintro e y5 ⟨he, hb5⟩; rw [HK.out] at he; subst he; have HB5 := Lib.hid (HB4.out.trans' hb5); have HP5 := Lib.hid (HP4.out.below hb5); have HX5 := Lib.hid (HX4.out.below hb5); have HR5 := Lib.hid (HR4.out.below hb5); have HRX5 := Lib.hid (HRX4.out.below hb5); clear hb5)))
      | ((with_reducible refine at_dst 60 ?_); (refine wpList_load_cells rfl 35 _ rfl y3.heap.size 0 (cfgc (cutC c) A2 cap2) rfl _ Try.underlying35 rfl info35 (fun j u hu => ?_) ?_; (rw [Nat.zero_add, HX4.out.cell, List.getElem?_toArray]; exact hu)))
      | (go_at_call 39; ((refine (capacity_bad (cutC c) _ _ g2 cap2 A2 _ HRX4.out HCM.out ?hbad).mono ?_); (case hbad => (exact .inr (.inl (by omega)))); (rintro e y6 ⟨he, hb6⟩; subst he; have HB6 := Lib.hid (HB4.out.trans' hb6); clear hb6))))
    all_goals
      go_ret
      exact ⟨rfl, HB6.out⟩
  · by_cases h0 : K = 0
    · subst h0
      have HZ : Hid ((cutC c).rate * (beforeC (cutC c) 0 - beforeC (cutC c) 0) = 0) := Lib.hid (by rw [Int.sub_self, Int.mul_zero])
      go_enter Try.func9, Try.ntmps9
      go_wp2_with (first
        | ((with_reducible refine at_dst 11 ?_); (refine wpList_load_cells rfl 24 _ rfl w.heap.size 0 (cfgc c A cap) rfl _ Try.underlying24 rfl info24' (fun j u hu => ?_) ?_; (rw [Nat.zero_add, HP.out.cell, List.getElem?_toArray]; exact hu)))
        | (go_at_call 14; ((refine (cut_at c g cap A _ (HR.out.below HB.out) HCL.out.1 HCL.out.2).mono ?_); (rintro e y1 ⟨A1, cap1, g1, he, h1, h2, h4, h3⟩; subst he; have HR1 := Lib.hid h1; have HC1 := Lib.hid h2; have HG1 : Hid (0 < (cutC c).ws.length → w.heap.size < g1) := Lib.hid (fun h => by have := h4 h; simp at this; omega); have HB1 := Lib.hid (HB.out.trans' h3); have HP1 := Lib.hid (HP.out.below h3); clear h1 h2 h3 h4)))
        | ((with_reducible refine at_store 24 3 ?_); (refine wpList_store_blk rfl 24 (.tmp 3) (.tmp 12) rfl w.heap.size 0 24 (cfgc c A cap) (cfgc (cutC c) A1 cap1) HP1.out (by rfl) (by rfl) info24' (by simp [cfgc]) (by simp [cfgc, Value.oneCell']) ?_; intro y2 hb2 hg2 hs2; have HP2 : Hid (Blk y2 w.heap.size 24 (cfgc (cutC c) A1 cap1).toArray) := Lib.hid (by simpa [cfgc] using hb2); have HB2 := Lib.hid (HB1.out.grown hg2 HB1.out.size (fun x hx => by simp at hx; omega)); have HR2 := Lib.hid (rd_off HR1.out hg2 (fun h => by have := HG1.out h; omega)); clear hb2 hg2 hs2))
        | ((with_reducible refine at_dst 13 ?_); (refine wpList_load_cells rfl 24 _ rfl w.heap.size 0 (cfgc (cutC c) A1 cap1) rfl _ Try.underlying24 rfl info24' (fun j u hu => ?_) ?_; (rw [Nat.zero_add, HP2.out.cell, List.getElem?_toArray]; exact hu)))
        | (go_at_call 16; ((refine (config_any (cutC c) g1 cap1 A1 _ HR2.out HCM.out).mono ?_); (rintro e y3 ⟨A2, cap2, g2, he, h1, h2, h4, h3⟩; rw [cut_idem] at he h1 h2 h4; subst he; have HR3 := Lib.hid h1; have HC3 := Lib.hid h2; have HB3 := Lib.hid (HB2.out.trans' h3); have HP3 := Lib.hid (HP2.out.below h3); have HRR := Lib.hid (HR2.out.below h3); clear h1 h2 h3 h4)))
        | ((with_reducible refine at_dst 7 ?_); (refine wpList_var 35 (cfgc (cutC c) A2 cap2) _ Try.underlying35 z35 info35z rfl (by simp [cfgc, Value.oneCell']) (by simp [Act.put]) rfl ?_; have HPA := Lib.hid (HP3.out.alloc (.cells (cfgc (cutC c) A2 cap2).toArray 35)); have HXA := Lib.hid (Blk.new y3 35 (cfgc (cutC c) A2 cap2).toArray); have HBA := Lib.hid (HB3.out.trans' (bnew y3 (.cells (cfgc (cutC c) A2 cap2).toArray 35))); have HRA := Lib.hid (HRR.out.below (bnew y3 (.cells (cfgc (cutC c) A2 cap2).toArray 35))); have HRX := Lib.hid (HR3.out.below (bnew y3 (.cells (cfgc (cutC c) A2 cap2).toArray 35)))))
        | (go_at_call 17; ((refine (known_any _).mono ?_); (rintro e y4 ⟨he, hb4⟩; subst he; have HB4 := Lib.hid (HBA.out.trans' hb4); have HP4 := Lib.hid (HPA.out.below hb4); have HX4 := Lib.hid (HXA.out.below hb4); have HR4 := Lib.hid (HRA.out.below hb4); have HRX4 := Lib.hid (HRX.out.below hb4); clear hb4)))
        | ((with_reducible refine at_dst 38 ?_); (refine wpList_wanted (by first | (simp [Region.wanted, yielded]; done) | (simp [Region.wanted, yielded]; omega)) fun _ hK => wp_load_cells 24 _ rfl w.heap.size 0 (cfgc (cutC c) A1 cap1) rfl _ Try.underlying24 rfl info24' (fun j u hu => by rw [Nat.zero_add, HP4.out.cell, List.getElem?_toArray]; exact hu) (hK _ _ ?_)))
        | (go_at_call 32; ((refine (refcheck_any (cutC c) g1 A1 cap1 _ HR4.out HCM.out).mono ?_); (rintro e y5 ⟨he, hb5⟩; rw [HK.out] at he; subst he; have HB5 := Lib.hid (HB4.out.trans' hb5); have HP5 := Lib.hid (HP4.out.below hb5); have HX5 := Lib.hid (HX4.out.below hb5); have HR5 := Lib.hid (HR4.out.below hb5); have HRX5 := Lib.hid (HRX4.out.below hb5); clear hb5)))
        | ((with_reducible refine at_dst 60 ?_); (refine wpList_load_cells rfl 35 _ rfl y3.heap.size 0 (cfgc (cutC c) A2 cap2) rfl _ Try.underlying35 rfl info35 (fun j u hu => ?_) ?_; (rw [Nat.zero_add, HX4.out.cell, List.getElem?_toArray]; exact hu)))
        | (go_at_call 39; ((refine (capacity_ok (cutC c) 0 0 g2 cap2 A2 _ HRX4.out HCM.out HK.out (by omega) (by omega) (by omega)).mono ?_); (rintro e y6 ⟨he, hb6⟩; rw [HZ.out] at he; subst he; have HB6 := Lib.hid (HB4.out.trans' hb6); clear hb6))))
      all_goals
        go_ret
        exact ⟨rfl, HB6.out⟩
    · go_enter Try.func9, Try.ntmps9
      go_wp2_with (first
        | ((with_reducible refine at_dst 11 ?_); (refine wpList_load_cells rfl 24 _ rfl w.heap.size 0 (cfgc c A cap) rfl _ Try.underlying24 rfl info24' (fun j u hu => ?_) ?_; (rw [Nat.zero_add, HP.out.cell, List.getElem?_toArray]; exact hu)))
        | (go_at_call 14; ((refine (cut_at c g cap A _ (HR.out.below HB.out) HCL.out.1 HCL.out.2).mono ?_); (rintro e y1 ⟨A1, cap1, g1, he, h1, h2, h4, h3⟩; subst he; have HR1 := Lib.hid h1; have HC1 := Lib.hid h2; have HG1 : Hid (0 < (cutC c).ws.length → w.heap.size < g1) := Lib.hid (fun h => by have := h4 h; simp at this; omega); have HB1 := Lib.hid (HB.out.trans' h3); have HP1 := Lib.hid (HP.out.below h3); clear h1 h2 h3 h4)))
        | ((with_reducible refine at_store 24 3 ?_); (refine wpList_store_blk rfl 24 (.tmp 3) (.tmp 12) rfl w.heap.size 0 24 (cfgc c A cap) (cfgc (cutC c) A1 cap1) HP1.out (by rfl) (by rfl) info24' (by simp [cfgc]) (by simp [cfgc, Value.oneCell']) ?_; intro y2 hb2 hg2 hs2; have HP2 : Hid (Blk y2 w.heap.size 24 (cfgc (cutC c) A1 cap1).toArray) := Lib.hid (by simpa [cfgc] using hb2); have HB2 := Lib.hid (HB1.out.grown hg2 HB1.out.size (fun x hx => by simp at hx; omega)); have HR2 := Lib.hid (rd_off HR1.out hg2 (fun h => by have := HG1.out h; omega)); clear hb2 hg2 hs2))
        | ((with_reducible refine at_dst 13 ?_); (refine wpList_load_cells rfl 24 _ rfl w.heap.size 0 (cfgc (cutC c) A1 cap1) rfl _ Try.underlying24 rfl info24' (fun j u hu => ?_) ?_; (rw [Nat.zero_add, HP2.out.cell, List.getElem?_toArray]; exact hu)))
        | (go_at_call 16; ((refine (config_any (cutC c) g1 cap1 A1 _ HR2.out HCM.out).mono ?_); (rintro e y3 ⟨A2, cap2, g2, he, h1, h2, h4, h3⟩; rw [cut_idem] at he h1 h2 h4; subst he; have HR3 := Lib.hid h1; have HC3 := Lib.hid h2; have HB3 := Lib.hid (HB2.out.trans' h3); have HP3 := Lib.hid (HP2.out.below h3); have HRR := Lib.hid (HR2.out.below h3); clear h1 h2 h3 h4)))
        | ((with_reducible refine at_dst 7 ?_); (refine wpList_var 35 (cfgc (cutC c) A2 cap2) _ Try.underlying35 z35 info35z rfl (by simp [cfgc, Value.oneCell']) (by simp [Act.put]) rfl ?_; have HPA := Lib.hid (HP3.out.alloc (.cells (cfgc (cutC c) A2 cap2).toArray 35)); have HXA := Lib.hid (Blk.new y3 35 (cfgc (cutC c) A2 cap2).toArray); have HBA := Lib.hid (HB3.out.trans' (bnew y3 (.cells (cfgc (cutC c) A2 cap2).toArray 35))); have HRA := Lib.hid (HRR.out.below (bnew y3 (.cells (cfgc (cutC c) A2 cap2).toArray 35))); have HRX := Lib.hid (HR3.out.below (bnew y3 (.cells (cfgc (cutC c) A2 cap2).toArray 35)))))
        | (go_at_call 17; ((refine (known_any _).mono ?_); (rintro e y4 ⟨he, hb4⟩; subst he; have HB4 := Lib.hid (HBA.out.trans' hb4); have HP4 := Lib.hid (HPA.out.below hb4); have HX4 := Lib.hid (HXA.out.below hb4); have HR4 := Lib.hid (HRA.out.below hb4); have HRX4 := Lib.hid (HRX.out.below hb4); clear hb4)))
        | ((with_reducible refine at_dst 38 ?_); (refine wpList_wanted (by first | (simp [Region.wanted, yielded]; done) | (simp [Region.wanted, yielded]; omega)) fun _ hK => wp_load_cells 24 _ rfl w.heap.size 0 (cfgc (cutC c) A1 cap1) rfl _ Try.underlying24 rfl info24' (fun j u hu => by rw [Nat.zero_add, HP4.out.cell, List.getElem?_toArray]; exact hu) (hK _ _ ?_)))
        | (go_at_call 32; ((refine (refcheck_any (cutC c) g1 A1 cap1 _ HR4.out HCM.out).mono ?_); (rintro e y5 ⟨he, hb5⟩; rw [HK.out] at he; subst he; have HB5 := Lib.hid (HB4.out.trans' hb5); have HP5 := Lib.hid (HP4.out.below hb5); have HX5 := Lib.hid (HX4.out.below hb5); have HR5 := Lib.hid (HR4.out.below hb5); have HRX5 := Lib.hid (HRX4.out.below hb5); clear hb5)))
        | ((with_reducible refine at_dst 60 ?_); (refine wpList_load_cells rfl 35 _ rfl y3.heap.size 0 (cfgc (cutC c) A2 cap2) rfl _ Try.underlying35 rfl info35 (fun j u hu => ?_) ?_; (rw [Nat.zero_add, HX4.out.cell, List.getElem?_toArray]; exact hu)))
        | (go_at_call 39; ((refine (capacity_bad (cutC c) _ _ g2 cap2 A2 _ HRX4.out HCM.out ?hbad).mono ?_); (case hbad => (exact .inr (.inr (.inr (by rw [HK.out]; exact h0))))); (rintro e y6 ⟨he, hb6⟩; subst he; have HB6 := Lib.hid (HB4.out.trans' hb6); clear hb6))))
      all_goals
        go_ret
        exact ⟨rfl, HB6.out⟩
set_option maxRecDepth 20000 in
set_option maxHeartbeats 8000000 in
theorem cap_out (c : Cfg) (f n : Int) (g cap : Nat) (A : Option Addr) (w : World) (hr : Rd w g 2 A c.ws.length (c.ws.flatMap winc)) (hc : c.ws.length ≤ cap) (hl : cap ≤ maxLen) (hf : 0 ≤ f) (hn : 0 ≤ n) (hx : chkC (cutC c) ≠ 0 ∨ 10000000 < f + (if 500 < n then n % 500 else n)) :
    Calls Try.prog 9 #[.agg (cfgc c A cap).toArray, .int .i64 f, .int .i64 n] w fun e w' => e = .returned (.bool true) ∧ Below w.heap.size w w' := by
  obtain ⟨K, hK⟩ : ∃ K, chkC (cutC c) = K := ⟨_, rfl⟩
  rw [hK] at hx
  have HK := Lib.hid hK
  clear hK
  have HR := Lib.hid hr
  have HCL := Lib.hid (And.intro hc hl)
  have HCM : Hid ((cutC c).ws.length ≤ maxLen) := Lib.hid (Nat.le_trans (cut_len c) (by unfold maxLen; omega))
  have HP := Lib.hid (Blk.new w 24 (cfgc c A cap).toArray)
  have HB := Lib.hid (bnew w (.cells (cfgc c A cap).toArray 24))
  clear hr hc hl
  by_cases h0 : K = 0
  · subst h0
    by_cases h5 : 500 < n
    · rw [if_pos h5] at hx
      have hx2 : 10000000 < f + n % 500 := by omega
      have h3 : 0 ≤ n % 500 := by omega
      have h4 : n % 500 < 500 := by omega
      clear hx
      rcases (by omega : 10000000 < f ∨ (f ≤ 10000000 ∧ 10000000 < f + n % 500)) with h1 | ⟨h1, h2⟩
      · go_enter Try.func9, Try.ntmps9
        go_wp2_with (first
          | ((with_reducible refine at_dst 11 ?_); (refine wpList_load_cells rfl 24 _ rfl w.heap.size 0 (cfgc c A cap) rfl _ Try.underlying24 rfl info24' (fun j u hu => ?_) ?_; (rw [Nat.zero_add, HP.out.cell, List.getElem?_toArray]; exact hu)))
          | (go_at_call 14; ((refine (cut_at c g cap A _ (HR.out.below HB.out) HCL.out.1 HCL.out.2).mono ?_); (rintro e y1 ⟨A1, cap1, g1, he, h1, h2, h4, h3⟩; subst he; have HR1 := Lib.hid h1; have HC1 := Lib.hid h2; have HG1 : Hid (0 < (cutC c).ws.length → w.heap.size < g1) := Lib.hid (fun h => by have := h4 h; simp at this; omega); have HB1 := Lib.hid (HB.out.trans' h3); have HP1 := Lib.hid (HP.out.below h3); clear h1 h2 h3 h4)))
          | ((with_reducible refine at_store 24 3 ?_); (refine wpList_store_blk rfl 24 (.tmp 3) (.tmp 12) rfl w.heap.size 0 24 (cfgc c A cap) (cfgc (cutC c) A1 cap1) HP1.out (by rfl) (by rfl) info24' (by simp [cfgc]) (by simp [cfgc, Value.oneCell']) ?_; intro y2 hb2 hg2 hs2; have HP2 : Hid (Blk y2 w.heap.size 24 (cfgc (cutC c) A1 cap1).toArray) := Lib.hid (by simpa [cfgc] using hb2); have HB2 := Lib.hid (HB1.out.grown hg2 HB1.out.size (fun x hx => by simp at hx; omega)); have HR2 := Lib.hid (rd_off HR1.out hg2 (fun h => by have := HG1.out h; omega)); clear hb2 hg2 hs2))
          | ((with_reducible refine at_dst 13 ?_); (refine wpList_load_cells rfl 24 _ rfl w.heap.size 0 (cfgc (cutC c) A1 cap1) rfl _ Try.underlying24 rfl info24' (fun j u hu => ?_) ?_; (rw [Nat.zero_add, HP2.out.cell, List.getElem?_toArray]; exact hu)))
          | (go_at_call 16; ((refine (config_any (cutC c) g1 cap1 A1 _ HR2.out HCM.out).mono ?_); (rintro e y3 ⟨A2, cap2, g2, he, h1, h2, h4, h3⟩; rw [cut_idem] at he h1 h2 h4; subst he; have HR3 := Lib.hid h1; have HC3 := Lib.hid h2; have HB3 := Lib.hid (HB2.out.trans' h3); have HP3 := Lib.hid (HP2.out.below h3); have HRR := Lib.hid (HR2.out.below h3); clear h1 h2 h3 h4)))
          | ((with_reducible refine at_dst 7 ?_); (refine wpList_var 35 (cfgc (cutC c) A2 cap2) _ Try.underlying35 z35 info35z rfl (by simp [cfgc, Value.oneCell']) (by simp [Act.put]) rfl ?_; have HPA := Lib.hid (HP3.out.alloc (.cells (cfgc (cutC c) A2 cap2).toArray 35)); have HXA := Lib.hid (Blk.new y3 35 (cfgc (cutC c) A2 cap2).toArray); have HBA := Lib.hid (HB3.out.trans' (bnew y3 (.cells (cfgc (cutC c) A2 cap2).toArray 35))); have HRA := Lib.hid (HRR.out.below (bnew y3 (.cells (cfgc (cutC c) A2 cap2).toArray 35))); have HRX := Lib.hid (HR3.out.below (bnew y3 (.cells (cfgc (cutC c) A2 cap2).toArray 35)))))
          | (go_at_call 17; ((refine (known_any _).mono ?_); (rintro e y4 ⟨he, hb4⟩; subst he; have HB4 := Lib.hid (HBA.out.trans' hb4); have HP4 := Lib.hid (HPA.out.below hb4); have HX4 := Lib.hid (HXA.out.below hb4); have HR4 := Lib.hid (HRA.out.below hb4); have HRX4 := Lib.hid (HRX.out.below hb4); clear hb4)))
          | ((with_reducible refine at_dst 38 ?_); (refine wpList_wanted (by first | (simp [Region.wanted, yielded]; done) | (simp [Region.wanted, yielded]; omega)) fun _ hK => wp_load_cells 24 _ rfl w.heap.size 0 (cfgc (cutC c) A1 cap1) rfl _ Try.underlying24 rfl info24' (fun j u hu => by rw [Nat.zero_add, HP4.out.cell, List.getElem?_toArray]; exact hu) (hK _ _ ?_)))
          | (go_at_call 32; ((refine (refcheck_any (cutC c) g1 A1 cap1 _ HR4.out HCM.out).mono ?_); (rintro e y5 ⟨he, hb5⟩; rw [HK.out] at he; subst he; have HB5 := Lib.hid (HB4.out.trans' hb5); have HP5 := Lib.hid (HP4.out.below hb5); have HX5 := Lib.hid (HX4.out.below hb5); have HR5 := Lib.hid (HR4.out.below hb5); have HRX5 := Lib.hid (HRX4.out.below hb5); clear hb5)))
          | ((with_reducible refine at_dst 60 ?_); (refine wpList_load_cells rfl 35 _ rfl y3.heap.size 0 (cfgc (cutC c) A2 cap2) rfl _ Try.underlying35 rfl info35 (fun j u hu => ?_) ?_; (rw [Nat.zero_add, HX4.out.cell, List.getElem?_toArray]; exact hu)))
          | (go_at_call 39; ((refine (capacity_bad (cutC c) _ _ g2 cap2 A2 _ HRX4.out HCM.out ?hbad).mono ?_); (case hbad => (exact .inr (.inr (.inl (by omega))))); (rintro e y6 ⟨he, hb6⟩; subst he; have HB6 := Lib.hid (HB4.out.trans' hb6); clear hb6))))
        all_goals
          go_ret
          exact ⟨rfl, HB6.out⟩
      · go_enter Try.func9, Try.ntmps9
        go_wp2_with (first
          | ((with_reducible refine at_dst 11 ?_); (refine wpList_load_cells rfl 24 _ rfl w.heap.size 0 (cfgc c A cap) rfl _ Try.underlying24 rfl info24' (fun j u hu => ?_) ?_; (rw [Nat.zero_add, HP.out.cell, List.getElem?_toArray]; exact hu)))
          | (go_at_call 14; ((refine (cut_at c g cap A _ (HR.out.below HB.out) HCL.out.1 HCL.out.2).mono ?_); (rintro e y1 ⟨A1, cap1, g1, he, h1, h2, h4, h3⟩; subst he; have HR1 := Lib.hid h1; have HC1 := Lib.hid h2; have HG1 : Hid (0 < (cutC c).ws.length → w.heap.size < g1) := Lib.hid (fun h => by have := h4 h; simp at this; omega); have HB1 := Lib.hid (HB.out.trans' h3); have HP1 := Lib.hid (HP.out.below h3); clear h1 h2 h3 h4)))
          | ((with_reducible refine at_store 24 3 ?_); (refine wpList_store_blk rfl 24 (.tmp 3) (.tmp 12) rfl w.heap.size 0 24 (cfgc c A cap) (cfgc (cutC c) A1 cap1) HP1.out (by rfl) (by rfl) info24' (by simp [cfgc]) (by simp [cfgc, Value.oneCell']) ?_; intro y2 hb2 hg2 hs2; have HP2 : Hid (Blk y2 w.heap.size 24 (cfgc (cutC c) A1 cap1).toArray) := Lib.hid (by simpa [cfgc] using hb2); have HB2 := Lib.hid (HB1.out.grown hg2 HB1.out.size (fun x hx => by simp at hx; omega)); have HR2 := Lib.hid (rd_off HR1.out hg2 (fun h => by have := HG1.out h; omega)); clear hb2 hg2 hs2))
          | ((with_reducible refine at_dst 13 ?_); (refine wpList_load_cells rfl 24 _ rfl w.heap.size 0 (cfgc (cutC c) A1 cap1) rfl _ Try.underlying24 rfl info24' (fun j u hu => ?_) ?_; (rw [Nat.zero_add, HP2.out.cell, List.getElem?_toArray]; exact hu)))
          | (go_at_call 16; ((refine (config_any (cutC c) g1 cap1 A1 _ HR2.out HCM.out).mono ?_); (rintro e y3 ⟨A2, cap2, g2, he, h1, h2, h4, h3⟩; rw [cut_idem] at he h1 h2 h4; subst he; have HR3 := Lib.hid h1; have HC3 := Lib.hid h2; have HB3 := Lib.hid (HB2.out.trans' h3); have HP3 := Lib.hid (HP2.out.below h3); have HRR := Lib.hid (HR2.out.below h3); clear h1 h2 h3 h4)))
          | ((with_reducible refine at_dst 7 ?_); (refine wpList_var 35 (cfgc (cutC c) A2 cap2) _ Try.underlying35 z35 info35z rfl (by simp [cfgc, Value.oneCell']) (by simp [Act.put]) rfl ?_; have HPA := Lib.hid (HP3.out.alloc (.cells (cfgc (cutC c) A2 cap2).toArray 35)); have HXA := Lib.hid (Blk.new y3 35 (cfgc (cutC c) A2 cap2).toArray); have HBA := Lib.hid (HB3.out.trans' (bnew y3 (.cells (cfgc (cutC c) A2 cap2).toArray 35))); have HRA := Lib.hid (HRR.out.below (bnew y3 (.cells (cfgc (cutC c) A2 cap2).toArray 35))); have HRX := Lib.hid (HR3.out.below (bnew y3 (.cells (cfgc (cutC c) A2 cap2).toArray 35)))))
          | (go_at_call 17; ((refine (known_any _).mono ?_); (rintro e y4 ⟨he, hb4⟩; subst he; have HB4 := Lib.hid (HBA.out.trans' hb4); have HP4 := Lib.hid (HPA.out.below hb4); have HX4 := Lib.hid (HXA.out.below hb4); have HR4 := Lib.hid (HRA.out.below hb4); have HRX4 := Lib.hid (HRX.out.below hb4); clear hb4)))
          | ((with_reducible refine at_dst 38 ?_); (refine wpList_wanted (by first | (simp [Region.wanted, yielded]; done) | (simp [Region.wanted, yielded]; omega)) fun _ hK => wp_load_cells 24 _ rfl w.heap.size 0 (cfgc (cutC c) A1 cap1) rfl _ Try.underlying24 rfl info24' (fun j u hu => by rw [Nat.zero_add, HP4.out.cell, List.getElem?_toArray]; exact hu) (hK _ _ ?_)))
          | (go_at_call 32; ((refine (refcheck_any (cutC c) g1 A1 cap1 _ HR4.out HCM.out).mono ?_); (rintro e y5 ⟨he, hb5⟩; rw [HK.out] at he; subst he; have HB5 := Lib.hid (HB4.out.trans' hb5); have HP5 := Lib.hid (HP4.out.below hb5); have HX5 := Lib.hid (HX4.out.below hb5); have HR5 := Lib.hid (HR4.out.below hb5); have HRX5 := Lib.hid (HRX4.out.below hb5); clear hb5)))
          | ((with_reducible refine at_dst 60 ?_); (refine wpList_load_cells rfl 35 _ rfl y3.heap.size 0 (cfgc (cutC c) A2 cap2) rfl _ Try.underlying35 rfl info35 (fun j u hu => ?_) ?_; (rw [Nat.zero_add, HX4.out.cell, List.getElem?_toArray]; exact hu)))
          | (go_at_call 39; ((refine (capacity_bad (cutC c) _ _ g2 cap2 A2 _ HRX4.out HCM.out ?hbad).mono ?_); (case hbad => (exact .inr (.inr (.inl (by omega))))); (rintro e y6 ⟨he, hb6⟩; subst he; have HB6 := Lib.hid (HB4.out.trans' hb6); clear hb6))))
        all_goals
          go_ret
          exact ⟨rfl, HB6.out⟩
    · rw [if_neg h5] at hx
      have hx2 : 10000000 < f + n := by omega
      clear hx
      rcases (by omega : 10000000 < f ∨ (f ≤ 10000000 ∧ 10000000 < f + n)) with h1 | ⟨h1, h2⟩
      · go_enter Try.func9, Try.ntmps9
        go_wp2_with (first
          | ((with_reducible refine at_dst 11 ?_); (refine wpList_load_cells rfl 24 _ rfl w.heap.size 0 (cfgc c A cap) rfl _ Try.underlying24 rfl info24' (fun j u hu => ?_) ?_; (rw [Nat.zero_add, HP.out.cell, List.getElem?_toArray]; exact hu)))
          | (go_at_call 14; ((refine (cut_at c g cap A _ (HR.out.below HB.out) HCL.out.1 HCL.out.2).mono ?_); (rintro e y1 ⟨A1, cap1, g1, he, h1, h2, h4, h3⟩; subst he; have HR1 := Lib.hid h1; have HC1 := Lib.hid h2; have HG1 : Hid (0 < (cutC c).ws.length → w.heap.size < g1) := Lib.hid (fun h => by have := h4 h; simp at this; omega); have HB1 := Lib.hid (HB.out.trans' h3); have HP1 := Lib.hid (HP.out.below h3); clear h1 h2 h3 h4)))
          | ((with_reducible refine at_store 24 3 ?_); (refine wpList_store_blk rfl 24 (.tmp 3) (.tmp 12) rfl w.heap.size 0 24 (cfgc c A cap) (cfgc (cutC c) A1 cap1) HP1.out (by rfl) (by rfl) info24' (by simp [cfgc]) (by simp [cfgc, Value.oneCell']) ?_; intro y2 hb2 hg2 hs2; have HP2 : Hid (Blk y2 w.heap.size 24 (cfgc (cutC c) A1 cap1).toArray) := Lib.hid (by simpa [cfgc] using hb2); have HB2 := Lib.hid (HB1.out.grown hg2 HB1.out.size (fun x hx => by simp at hx; omega)); have HR2 := Lib.hid (rd_off HR1.out hg2 (fun h => by have := HG1.out h; omega)); clear hb2 hg2 hs2))
          | ((with_reducible refine at_dst 13 ?_); (refine wpList_load_cells rfl 24 _ rfl w.heap.size 0 (cfgc (cutC c) A1 cap1) rfl _ Try.underlying24 rfl info24' (fun j u hu => ?_) ?_; (rw [Nat.zero_add, HP2.out.cell, List.getElem?_toArray]; exact hu)))
          | (go_at_call 16; ((refine (config_any (cutC c) g1 cap1 A1 _ HR2.out HCM.out).mono ?_); (rintro e y3 ⟨A2, cap2, g2, he, h1, h2, h4, h3⟩; rw [cut_idem] at he h1 h2 h4; subst he; have HR3 := Lib.hid h1; have HC3 := Lib.hid h2; have HB3 := Lib.hid (HB2.out.trans' h3); have HP3 := Lib.hid (HP2.out.below h3); have HRR := Lib.hid (HR2.out.below h3); clear h1 h2 h3 h4)))
          | ((with_reducible refine at_dst 7 ?_); (refine wpList_var 35 (cfgc (cutC c) A2 cap2) _ Try.underlying35 z35 info35z rfl (by simp [cfgc, Value.oneCell']) (by simp [Act.put]) rfl ?_; have HPA := Lib.hid (HP3.out.alloc (.cells (cfgc (cutC c) A2 cap2).toArray 35)); have HXA := Lib.hid (Blk.new y3 35 (cfgc (cutC c) A2 cap2).toArray); have HBA := Lib.hid (HB3.out.trans' (bnew y3 (.cells (cfgc (cutC c) A2 cap2).toArray 35))); have HRA := Lib.hid (HRR.out.below (bnew y3 (.cells (cfgc (cutC c) A2 cap2).toArray 35))); have HRX := Lib.hid (HR3.out.below (bnew y3 (.cells (cfgc (cutC c) A2 cap2).toArray 35)))))
          | (go_at_call 17; ((refine (known_any _).mono ?_); (rintro e y4 ⟨he, hb4⟩; subst he; have HB4 := Lib.hid (HBA.out.trans' hb4); have HP4 := Lib.hid (HPA.out.below hb4); have HX4 := Lib.hid (HXA.out.below hb4); have HR4 := Lib.hid (HRA.out.below hb4); have HRX4 := Lib.hid (HRX.out.below hb4); clear hb4)))
          | ((with_reducible refine at_dst 38 ?_); (refine wpList_wanted (by first | (simp [Region.wanted, yielded]; done) | (simp [Region.wanted, yielded]; omega)) fun _ hK => wp_load_cells 24 _ rfl w.heap.size 0 (cfgc (cutC c) A1 cap1) rfl _ Try.underlying24 rfl info24' (fun j u hu => by rw [Nat.zero_add, HP4.out.cell, List.getElem?_toArray]; exact hu) (hK _ _ ?_)))
          | (go_at_call 32; ((refine (refcheck_any (cutC c) g1 A1 cap1 _ HR4.out HCM.out).mono ?_); (rintro e y5 ⟨he, hb5⟩; rw [HK.out] at he; subst he; have HB5 := Lib.hid (HB4.out.trans' hb5); have HP5 := Lib.hid (HP4.out.below hb5); have HX5 := Lib.hid (HX4.out.below hb5); have HR5 := Lib.hid (HR4.out.below hb5); have HRX5 := Lib.hid (HRX4.out.below hb5); clear hb5)))
          | ((with_reducible refine at_dst 60 ?_); (refine wpList_load_cells rfl 35 _ rfl y3.heap.size 0 (cfgc (cutC c) A2 cap2) rfl _ Try.underlying35 rfl info35 (fun j u hu => ?_) ?_; (rw [Nat.zero_add, HX4.out.cell, List.getElem?_toArray]; exact hu)))
          | (go_at_call 39; ((refine (capacity_bad (cutC c) _ _ g2 cap2 A2 _ HRX4.out HCM.out ?hbad).mono ?_); (case hbad => (exact .inr (.inr (.inl (by omega))))); (rintro e y6 ⟨he, hb6⟩; subst he; have HB6 := Lib.hid (HB4.out.trans' hb6); clear hb6))))
        all_goals
          go_ret
          exact ⟨rfl, HB6.out⟩
      · go_enter Try.func9, Try.ntmps9
        go_wp2_with (first
          | ((with_reducible refine at_dst 11 ?_); (refine wpList_load_cells rfl 24 _ rfl w.heap.size 0 (cfgc c A cap) rfl _ Try.underlying24 rfl info24' (fun j u hu => ?_) ?_; (rw [Nat.zero_add, HP.out.cell, List.getElem?_toArray]; exact hu)))
          | (go_at_call 14; ((refine (cut_at c g cap A _ (HR.out.below HB.out) HCL.out.1 HCL.out.2).mono ?_); (rintro e y1 ⟨A1, cap1, g1, he, h1, h2, h4, h3⟩; subst he; have HR1 := Lib.hid h1; have HC1 := Lib.hid h2; have HG1 : Hid (0 < (cutC c).ws.length → w.heap.size < g1) := Lib.hid (fun h => by have := h4 h; simp at this; omega); have HB1 := Lib.hid (HB.out.trans' h3); have HP1 := Lib.hid (HP.out.below h3); clear h1 h2 h3 h4)))
          | ((with_reducible refine at_store 24 3 ?_); (refine wpList_store_blk rfl 24 (.tmp 3) (.tmp 12) rfl w.heap.size 0 24 (cfgc c A cap) (cfgc (cutC c) A1 cap1) HP1.out (by rfl) (by rfl) info24' (by simp [cfgc]) (by simp [cfgc, Value.oneCell']) ?_; intro y2 hb2 hg2 hs2; have HP2 : Hid (Blk y2 w.heap.size 24 (cfgc (cutC c) A1 cap1).toArray) := Lib.hid (by simpa [cfgc] using hb2); have HB2 := Lib.hid (HB1.out.grown hg2 HB1.out.size (fun x hx => by simp at hx; omega)); have HR2 := Lib.hid (rd_off HR1.out hg2 (fun h => by have := HG1.out h; omega)); clear hb2 hg2 hs2))
          | ((with_reducible refine at_dst 13 ?_); (refine wpList_load_cells rfl 24 _ rfl w.heap.size 0 (cfgc (cutC c) A1 cap1) rfl _ Try.underlying24 rfl info24' (fun j u hu => ?_) ?_; (rw [Nat.zero_add, HP2.out.cell, List.getElem?_toArray]; exact hu)))
          | (go_at_call 16; ((refine (config_any (cutC c) g1 cap1 A1 _ HR2.out HCM.out).mono ?_); (rintro e y3 ⟨A2, cap2, g2, he, h1, h2, h4, h3⟩; rw [cut_idem] at he h1 h2 h4; subst he; have HR3 := Lib.hid h1; have HC3 := Lib.hid h2; have HB3 := Lib.hid (HB2.out.trans' h3); have HP3 := Lib.hid (HP2.out.below h3); have HRR := Lib.hid (HR2.out.below h3); clear h1 h2 h3 h4)))
          | ((with_reducible refine at_dst 7 ?_); (refine wpList_var 35 (cfgc (cutC c) A2 cap2) _ Try.underlying35 z35 info35z rfl (by simp [cfgc, Value.oneCell']) (by simp [Act.put]) rfl ?_; have HPA := Lib.hid (HP3.out.alloc (.cells (cfgc (cutC c) A2 cap2).toArray 35)); have HXA := Lib.hid (Blk.new y3 35 (cfgc (cutC c) A2 cap2).toArray); have HBA := Lib.hid (HB3.out.trans' (bnew y3 (.cells (cfgc (cutC c) A2 cap2).toArray 35))); have HRA := Lib.hid (HRR.out.below (bnew y3 (.cells (cfgc (cutC c) A2 cap2).toArray 35))); have HRX := Lib.hid (HR3.out.below (bnew y3 (.cells (cfgc (cutC c) A2 cap2).toArray 35)))))
          | (go_at_call 17; ((refine (known_any _).mono ?_); (rintro e y4 ⟨he, hb4⟩; subst he; have HB4 := Lib.hid (HBA.out.trans' hb4); have HP4 := Lib.hid (HPA.out.below hb4); have HX4 := Lib.hid (HXA.out.below hb4); have HR4 := Lib.hid (HRA.out.below hb4); have HRX4 := Lib.hid (HRX.out.below hb4); clear hb4)))
          | ((with_reducible refine at_dst 38 ?_); (refine wpList_wanted (by first | (simp [Region.wanted, yielded]; done) | (simp [Region.wanted, yielded]; omega)) fun _ hK => wp_load_cells 24 _ rfl w.heap.size 0 (cfgc (cutC c) A1 cap1) rfl _ Try.underlying24 rfl info24' (fun j u hu => by rw [Nat.zero_add, HP4.out.cell, List.getElem?_toArray]; exact hu) (hK _ _ ?_)))
          | (go_at_call 32; ((refine (refcheck_any (cutC c) g1 A1 cap1 _ HR4.out HCM.out).mono ?_); (rintro e y5 ⟨he, hb5⟩; rw [HK.out] at he; subst he; have HB5 := Lib.hid (HB4.out.trans' hb5); have HP5 := Lib.hid (HP4.out.below hb5); have HX5 := Lib.hid (HX4.out.below hb5); have HR5 := Lib.hid (HR4.out.below hb5); have HRX5 := Lib.hid (HRX4.out.below hb5); clear hb5)))
          | ((with_reducible refine at_dst 60 ?_); (refine wpList_load_cells rfl 35 _ rfl y3.heap.size 0 (cfgc (cutC c) A2 cap2) rfl _ Try.underlying35 rfl info35 (fun j u hu => ?_) ?_; (rw [Nat.zero_add, HX4.out.cell, List.getElem?_toArray]; exact hu)))
          | (go_at_call 39; ((refine (capacity_bad (cutC c) _ _ g2 cap2 A2 _ HRX4.out HCM.out ?hbad).mono ?_); (case hbad => (exact .inr (.inr (.inl (by omega))))); (rintro e y6 ⟨he, hb6⟩; subst he; have HB6 := Lib.hid (HB4.out.trans' hb6); clear hb6))))
        all_goals
          go_ret
          exact ⟨rfl, HB6.out⟩
  · clear hx
    by_cases h5 : 500 < n
    · have h3 : 0 ≤ n % 500 := by omega
      have h4 : n % 500 < 500 := by omega
      rcases (by omega : 10000000 < f ∨ (f ≤ 10000000 ∧ 10000000 < f + n % 500) ∨ f + n % 500 ≤ 10000000) with h1 | ⟨h1, h2⟩ | h1
      · go_enter Try.func9, Try.ntmps9
        go_wp2_with (first
          | ((with_reducible refine at_dst 11 ?_); (refine wpList_load_cells rfl 24 _ rfl w.heap.size 0 (cfgc c A cap) rfl _ Try.underlying24 rfl info24' (fun j u hu => ?_) ?_; (rw [Nat.zero_add, HP.out.cell, List.getElem?_toArray]; exact hu)))
          | (go_at_call 14; ((refine (cut_at c g cap A _ (HR.out.below HB.out) HCL.out.1 HCL.out.2).mono ?_); (rintro e y1 ⟨A1, cap1, g1, he, h1, h2, h4, h3⟩; subst he; have HR1 := Lib.hid h1; have HC1 := Lib.hid h2; have HG1 : Hid (0 < (cutC c).ws.length → w.heap.size < g1) := Lib.hid (fun h => by have := h4 h; simp at this; omega); have HB1 := Lib.hid (HB.out.trans' h3); have HP1 := Lib.hid (HP.out.below h3); clear h1 h2 h3 h4)))
          | ((with_reducible refine at_store 24 3 ?_); (refine wpList_store_blk rfl 24 (.tmp 3) (.tmp 12) rfl w.heap.size 0 24 (cfgc c A cap) (cfgc (cutC c) A1 cap1) HP1.out (by rfl) (by rfl) info24' (by simp [cfgc]) (by simp [cfgc, Value.oneCell']) ?_; intro y2 hb2 hg2 hs2; have HP2 : Hid (Blk y2 w.heap.size 24 (cfgc (cutC c) A1 cap1).toArray) := Lib.hid (by simpa [cfgc] using hb2); have HB2 := Lib.hid (HB1.out.grown hg2 HB1.out.size (fun x hx => by simp at hx; omega)); have HR2 := Lib.hid (rd_off HR1.out hg2 (fun h => by have := HG1.out h; omega)); clear hb2 hg2 hs2))
          | ((with_reducible refine at_dst 13 ?_); (refine wpList_load_cells rfl 24 _ rfl w.heap.size 0 (cfgc (cutC c) A1 cap1) rfl _ Try.underlying24 rfl info24' (fun j u hu => ?_) ?_; (rw [Nat.zero_add, HP2.out.cell, List.getElem?_toArray]; exact hu)))
          | (go_at_call 16; ((refine (config_any (cutC c) g1 cap1 A1 _ HR2.out HCM.out).mono ?_); (rintro e y3 ⟨A2, cap2, g2, he, h1, h2, h4, h3⟩; rw [cut_idem] at he h1 h2 h4; subst he; have HR3 := Lib.hid h1; have HC3 := Lib.hid h2; have HB3 := Lib.hid (HB2.out.trans' h3); have HP3 := Lib.hid (HP2.out.below h3); have HRR := Lib.hid (HR2.out.below h3); clear h1 h2 h3 h4)))
          | ((with_reducible refine at_dst 7 ?_); (refine wpList_var 35 (cfgc (cutC c) A2 cap2) _ Try.underlying35 z35 info35z rfl (by simp [cfgc, Value.oneCell']) (by simp [Act.put]) rfl ?_; have HPA := Lib.hid (HP3.out.alloc (.cells (cfgc (cutC c) A2 cap2).toArray 35)); have HXA := Lib.hid (Blk.new y3 35 (cfgc (cutC c) A2 cap2).toArray); have HBA := Lib.hid (HB3.out.trans' (bnew y3 (.cells (cfgc (cutC c) A2 cap2).toArray 35))); have HRA := Lib.hid (HRR.out.below (bnew y3 (.cells (cfgc (cutC c) A2 cap2).toArray 35))); have HRX := Lib.hid (HR3.out.below (bnew y3 (.cells (cfgc (cutC c) A2 cap2).toArray 35)))))
          | (go_at_call 17; ((refine (known_any _).mono ?_); (rintro e y4 ⟨he, hb4⟩; subst he; have HB4 := Lib.hid (HBA.out.trans' hb4); have HP4 := Lib.hid (HPA.out.below hb4); have HX4 := Lib.hid (HXA.out.below hb4); have HR4 := Lib.hid (HRA.out.below hb4); have HRX4 := Lib.hid (HRX.out.below hb4); clear hb4)))
          | ((with_reducible refine at_dst 38 ?_); (refine wpList_wanted (by first | (simp [Region.wanted, yielded]; done) | (simp [Region.wanted, yielded]; omega)) fun _ hK => wp_load_cells 24 _ rfl w.heap.size 0 (cfgc (cutC c) A1 cap1) rfl _ Try.underlying24 rfl info24' (fun j u hu => by rw [Nat.zero_add, HP4.out.cell, List.getElem?_toArray]; exact hu) (hK _ _ ?_)))
          | (go_at_call 32; ((refine (refcheck_any (cutC c) g1 A1 cap1 _ HR4.out HCM.out).mono ?_); (rintro e y5 ⟨he, hb5⟩; rw [HK.out] at he; subst he; have HB5 := Lib.hid (HB4.out.trans' hb5); have HP5 := Lib.hid (HP4.out.below hb5); have HX5 := Lib.hid (HX4.out.below hb5); have HR5 := Lib.hid (HR4.out.below hb5); have HRX5 := Lib.hid (HRX4.out.below hb5); clear hb5)))
          | ((with_reducible refine at_dst 60 ?_); (refine wpList_load_cells rfl 35 _ rfl y3.heap.size 0 (cfgc (cutC c) A2 cap2) rfl _ Try.underlying35 rfl info35 (fun j u hu => ?_) ?_; (rw [Nat.zero_add, HX4.out.cell, List.getElem?_toArray]; exact hu)))
          | (go_at_call 39; ((refine (capacity_bad (cutC c) _ _ g2 cap2 A2 _ HRX4.out HCM.out ?hbad).mono ?_); (case hbad => (exact .inr (.inr (.inl (by omega))))); (rintro e y6 ⟨he, hb6⟩; subst he; have HB6 := Lib.hid (HB4.out.trans' hb6); clear hb6))))
        all_goals
          go_ret
          exact ⟨rfl, HB6.out⟩
      · go_enter Try.func9, Try.ntmps9
        go_wp2_with (first
          | ((with_reducible refine at_dst 11 ?_); (refine wpList_load_cells rfl 24 _ rfl w.heap.size 0 (cfgc c A cap) rfl _ Try.underlying24 rfl info24' (fun j u hu => ?_) ?_; (rw [Nat.zero_add, HP.out.cell, List.getElem?_toArray]; exact hu)))
          | (go_at_call 14; ((refine (cut_at c g cap A _ (HR.out.below HB.out) HCL.out.1 HCL.out.2).mono ?_); (rintro e y1 ⟨A1, cap1, g1, he, h1, h2, h4, h3⟩; subst he; have HR1 := Lib.hid h1; have HC1 := Lib.hid h2; have HG1 : Hid (0 < (cutC c).ws.length → w.heap.size < g1) := Lib.hid (fun h => by have := h4 h; simp at this; omega); have HB1 := Lib.hid (HB.out.trans' h3); have HP1 := Lib.hid (HP.out.below h3); clear h1 h2 h3 h4)))
          | ((with_reducible refine at_store 24 3 ?_); (refine wpList_store_blk rfl 24 (.tmp 3) (.tmp 12) rfl w.heap.size 0 24 (cfgc c A cap) (cfgc (cutC c) A1 cap1) HP1.out (by rfl) (by rfl) info24' (by simp [cfgc]) (by simp [cfgc, Value.oneCell']) ?_; intro y2 hb2 hg2 hs2; have HP2 : Hid (Blk y2 w.heap.size 24 (cfgc (cutC c) A1 cap1).toArray) := Lib.hid (by simpa [cfgc] using hb2); have HB2 := Lib.hid (HB1.out.grown hg2 HB1.out.size (fun x hx => by simp at hx; omega)); have HR2 := Lib.hid (rd_off HR1.out hg2 (fun h => by have := HG1.out h; omega)); clear hb2 hg2 hs2))
          | ((with_reducible refine at_dst 13 ?_); (refine wpList_load_cells rfl 24 _ rfl w.heap.size 0 (cfgc (cutC c) A1 cap1) rfl _ Try.underlying24 rfl info24' (fun j u hu => ?_) ?_; (rw [Nat.zero_add, HP2.out.cell, List.getElem?_toArray]; exact hu)))
          | (go_at_call 16; ((refine (config_any (cutC c) g1 cap1 A1 _ HR2.out HCM.out).mono ?_); (rintro e y3 ⟨A2, cap2, g2, he, h1, h2, h4, h3⟩; rw [cut_idem] at he h1 h2 h4; subst he; have HR3 := Lib.hid h1; have HC3 := Lib.hid h2; have HB3 := Lib.hid (HB2.out.trans' h3); have HP3 := Lib.hid (HP2.out.below h3); have HRR := Lib.hid (HR2.out.below h3); clear h1 h2 h3 h4)))
          | ((with_reducible refine at_dst 7 ?_); (refine wpList_var 35 (cfgc (cutC c) A2 cap2) _ Try.underlying35 z35 info35z rfl (by simp [cfgc, Value.oneCell']) (by simp [Act.put]) rfl ?_; have HPA := Lib.hid (HP3.out.alloc (.cells (cfgc (cutC c) A2 cap2).toArray 35)); have HXA := Lib.hid (Blk.new y3 35 (cfgc (cutC c) A2 cap2).toArray); have HBA := Lib.hid (HB3.out.trans' (bnew y3 (.cells (cfgc (cutC c) A2 cap2).toArray 35))); have HRA := Lib.hid (HRR.out.below (bnew y3 (.cells (cfgc (cutC c) A2 cap2).toArray 35))); have HRX := Lib.hid (HR3.out.below (bnew y3 (.cells (cfgc (cutC c) A2 cap2).toArray 35)))))
          | (go_at_call 17; ((refine (known_any _).mono ?_); (rintro e y4 ⟨he, hb4⟩; subst he; have HB4 := Lib.hid (HBA.out.trans' hb4); have HP4 := Lib.hid (HPA.out.below hb4); have HX4 := Lib.hid (HXA.out.below hb4); have HR4 := Lib.hid (HRA.out.below hb4); have HRX4 := Lib.hid (HRX.out.below hb4); clear hb4)))
          | ((with_reducible refine at_dst 38 ?_); (refine wpList_wanted (by first | (simp [Region.wanted, yielded]; done) | (simp [Region.wanted, yielded]; omega)) fun _ hK => wp_load_cells 24 _ rfl w.heap.size 0 (cfgc (cutC c) A1 cap1) rfl _ Try.underlying24 rfl info24' (fun j u hu => by rw [Nat.zero_add, HP4.out.cell, List.getElem?_toArray]; exact hu) (hK _ _ ?_)))
          | (go_at_call 32; ((refine (refcheck_any (cutC c) g1 A1 cap1 _ HR4.out HCM.out).mono ?_); (rintro e y5 ⟨he, hb5⟩; rw [HK.out] at he; subst he; have HB5 := Lib.hid (HB4.out.trans' hb5); have HP5 := Lib.hid (HP4.out.below hb5); have HX5 := Lib.hid (HX4.out.below hb5); have HR5 := Lib.hid (HR4.out.below hb5); have HRX5 := Lib.hid (HRX4.out.below hb5); clear hb5)))
          | ((with_reducible refine at_dst 60 ?_); (refine wpList_load_cells rfl 35 _ rfl y3.heap.size 0 (cfgc (cutC c) A2 cap2) rfl _ Try.underlying35 rfl info35 (fun j u hu => ?_) ?_; (rw [Nat.zero_add, HX4.out.cell, List.getElem?_toArray]; exact hu)))
          | (go_at_call 39; ((refine (capacity_bad (cutC c) _ _ g2 cap2 A2 _ HRX4.out HCM.out ?hbad).mono ?_); (case hbad => (exact .inr (.inr (.inl (by omega))))); (rintro e y6 ⟨he, hb6⟩; subst he; have HB6 := Lib.hid (HB4.out.trans' hb6); clear hb6))))
        all_goals
          go_ret
          exact ⟨rfl, HB6.out⟩
      · have hkb : (K == 0) = false := by simpa using h0
        have hkb2 : (K != 0) = true := by simpa using h0
        go_enter Try.func9, Try.ntmps9
        go_wp2_with (first
          | ((with_reducible refine at_dst 11 ?_); (refine wpList_load_cells rfl 24 _ rfl w.heap.size 0 (cfgc c A cap) rfl _ Try.underlying24 rfl info24' (fun j u hu => ?_) ?_; (rw [Nat.zero_add, HP.out.cell, List.getElem?_toArray]; exact hu)))
          | (go_at_call 14; ((refine (cut_at c g cap A _ (HR.out.below HB.out) HCL.out.1 HCL.out.2).mono ?_); (rintro e y1 ⟨A1, cap1, g1, he, h1, h2, h4, h3⟩; subst he; have HR1 := Lib.hid h1; have HC1 := Lib.hid h2; have HG1 : Hid (0 < (cutC c).ws.length → w.heap.size < g1) := Lib.hid (fun h => by have := h4 h; simp at this; omega); have HB1 := Lib.hid (HB.out.trans' h3); have HP1 := Lib.hid (HP.out.below h3); clear h1 h2 h3 h4)))
          | ((with_reducible refine at_store 24 3 ?_); (refine wpList_store_blk rfl 24 (.tmp 3) (.tmp 12) rfl w.heap.size 0 24 (cfgc c A cap) (cfgc (cutC c) A1 cap1) HP1.out (by rfl) (by rfl) info24' (by simp [cfgc]) (by simp [cfgc, Value.oneCell']) ?_; intro y2 hb2 hg2 hs2; have HP2 : Hid (Blk y2 w.heap.size 24 (cfgc (cutC c) A1 cap1).toArray) := Lib.hid (by simpa [cfgc] using hb2); have HB2 := Lib.hid (HB1.out.grown hg2 HB1.out.size (fun x hx => by simp at hx; omega)); have HR2 := Lib.hid (rd_off HR1.out hg2 (fun h => by have := HG1.out h; omega)); clear hb2 hg2 hs2))
          | ((with_reducible refine at_dst 13 ?_); (refine wpList_load_cells rfl 24 _ rfl w.heap.size 0 (cfgc (cutC c) A1 cap1) rfl _ Try.underlying24 rfl info24' (fun j u hu => ?_) ?_; (rw [Nat.zero_add, HP2.out.cell, List.getElem?_toArray]; exact hu)))
          | (go_at_call 16; ((refine (config_any (cutC c) g1 cap1 A1 _ HR2.out HCM.out).mono ?_); (rintro e y3 ⟨A2, cap2, g2, he, h1, h2, h4, h3⟩; rw [cut_idem] at he h1 h2 h4; subst he; have HR3 := Lib.hid h1; have HC3 := Lib.hid h2; have HB3 := Lib.hid (HB2.out.trans' h3); have HP3 := Lib.hid (HP2.out.below h3); have HRR := Lib.hid (HR2.out.below h3); clear h1 h2 h3 h4)))
          | ((with_reducible refine at_dst 7 ?_); (refine wpList_var 35 (cfgc (cutC c) A2 cap2) _ Try.underlying35 z35 info35z rfl (by simp [cfgc, Value.oneCell']) (by simp [Act.put]) rfl ?_; have HPA := Lib.hid (HP3.out.alloc (.cells (cfgc (cutC c) A2 cap2).toArray 35)); have HXA := Lib.hid (Blk.new y3 35 (cfgc (cutC c) A2 cap2).toArray); have HBA := Lib.hid (HB3.out.trans' (bnew y3 (.cells (cfgc (cutC c) A2 cap2).toArray 35))); have HRA := Lib.hid (HRR.out.below (bnew y3 (.cells (cfgc (cutC c) A2 cap2).toArray 35))); have HRX := Lib.hid (HR3.out.below (bnew y3 (.cells (cfgc (cutC c) A2 cap2).toArray 35)))))
          | (go_at_call 17; ((refine (known_any _).mono ?_); (rintro e y4 ⟨he, hb4⟩; subst he; have HB4 := Lib.hid (HBA.out.trans' hb4); have HP4 := Lib.hid (HPA.out.below hb4); have HX4 := Lib.hid (HXA.out.below hb4); have HR4 := Lib.hid (HRA.out.below hb4); have HRX4 := Lib.hid (HRX.out.below hb4); clear hb4)))
          | ((with_reducible refine at_dst 38 ?_); (refine wpList_wanted (by first | (simp [Region.wanted, yielded]; done) | (simp [Region.wanted, yielded]; omega)) fun _ hK => wp_load_cells 24 _ rfl w.heap.size 0 (cfgc (cutC c) A1 cap1) rfl _ Try.underlying24 rfl info24' (fun j u hu => by rw [Nat.zero_add, HP4.out.cell, List.getElem?_toArray]; exact hu) (hK _ _ ?_)))
          | (go_at_call 32; ((refine (refcheck_any (cutC c) g1 A1 cap1 _ HR4.out HCM.out).mono ?_); (rintro e y5 ⟨he, hb5⟩; rw [HK.out] at he; subst he; have HB5 := Lib.hid (HB4.out.trans' hb5); have HP5 := Lib.hid (HP4.out.below hb5); have HX5 := Lib.hid (HX4.out.below hb5); have HR5 := Lib.hid (HR4.out.below hb5); have HRX5 := Lib.hid (HRX4.out.below hb5); clear hb5)))
          | ((with_reducible refine at_dst 60 ?_); (refine wpList_load_cells rfl 35 _ rfl y3.heap.size 0 (cfgc (cutC c) A2 cap2) rfl _ Try.underlying35 rfl info35 (fun j u hu => ?_) ?_; (rw [Nat.zero_add, HX5.out.cell, List.getElem?_toArray]; exact hu)))
          | (go_at_call 39; ((refine (capacity_bad (cutC c) _ _ g2 cap2 A2 _ HRX5.out HCM.out ?hbad).mono ?_); (case hbad => (exact .inr (.inr (.inr (by rw [HK.out]; exact h0))))); (rintro e y6 ⟨he, hb6⟩; subst he; have HB6 := Lib.hid (HB5.out.trans' hb6); clear hb6))))
        all_goals
          go_ret
          exact ⟨rfl, HB6.out⟩
    · rcases (by omega : 10000000 < f ∨ (f ≤ 10000000 ∧ 10000000 < f + n) ∨ f + n ≤ 10000000) with h1 | ⟨h1, h2⟩ | h1
      · go_enter Try.func9, Try.ntmps9
        go_wp2_with (first
          | ((with_reducible refine at_dst 11 ?_); (refine wpList_load_cells rfl 24 _ rfl w.heap.size 0 (cfgc c A cap) rfl _ Try.underlying24 rfl info24' (fun j u hu => ?_) ?_; (rw [Nat.zero_add, HP.out.cell, List.getElem?_toArray]; exact hu)))
          | (go_at_call 14; ((refine (cut_at c g cap A _ (HR.out.below HB.out) HCL.out.1 HCL.out.2).mono ?_); (rintro e y1 ⟨A1, cap1, g1, he, h1, h2, h4, h3⟩; subst he; have HR1 := Lib.hid h1; have HC1 := Lib.hid h2; have HG1 : Hid (0 < (cutC c).ws.length → w.heap.size < g1) := Lib.hid (fun h => by have := h4 h; simp at this; omega); have HB1 := Lib.hid (HB.out.trans' h3); have HP1 := Lib.hid (HP.out.below h3); clear h1 h2 h3 h4)))
          | ((with_reducible refine at_store 24 3 ?_); (refine wpList_store_blk rfl 24 (.tmp 3) (.tmp 12) rfl w.heap.size 0 24 (cfgc c A cap) (cfgc (cutC c) A1 cap1) HP1.out (by rfl) (by rfl) info24' (by simp [cfgc]) (by simp [cfgc, Value.oneCell']) ?_; intro y2 hb2 hg2 hs2; have HP2 : Hid (Blk y2 w.heap.size 24 (cfgc (cutC c) A1 cap1).toArray) := Lib.hid (by simpa [cfgc] using hb2); have HB2 := Lib.hid (HB1.out.grown hg2 HB1.out.size (fun x hx => by simp at hx; omega)); have HR2 := Lib.hid (rd_off HR1.out hg2 (fun h => by have := HG1.out h; omega)); clear hb2 hg2 hs2))
          | ((with_reducible refine at_dst 13 ?_); (refine wpList_load_cells rfl 24 _ rfl w.heap.size 0 (cfgc (cutC c) A1 cap1) rfl _ Try.underlying24 rfl info24' (fun j u hu => ?_) ?_; (rw [Nat.zero_add, HP2.out.cell, List.getElem?_toArray]; exact hu)))
          | (go_at_call 16; ((refine (config_any (cutC c) g1 cap1 A1 _ HR2.out HCM.out).mono ?_); (rintro e y3 ⟨A2, cap2, g2, he, h1, h2, h4, h3⟩; rw [cut_idem] at he h1 h2 h4; subst he; have HR3 := Lib.hid h1; have HC3 := Lib.hid h2; have HB3 := Lib.hid (HB2.out.trans' h3); have HP3 := Lib.hid (HP2.out.below h3); have HRR := Lib.hid (HR2.out.below h3); clear h1 h2 h3 h4)))
          | ((with_reducible refine at_dst 7 ?_); (refine wpList_var 35 (cfgc (cutC c) A2 cap2) _ Try.underlying35 z35 info35z rfl (by simp [cfgc, Value.oneCell']) (by simp [Act.put]) rfl ?_; have HPA := Lib.hid (HP3.out.alloc (.cells (cfgc (cutC c) A2 cap2).toArray 35)); have HXA := Lib.hid (Blk.new y3 35 (cfgc (cutC c) A2 cap2).toArray); have HBA := Lib.hid (HB3.out.trans' (bnew y3 (.cells (cfgc (cutC c) A2 cap2).toArray 35))); have HRA := Lib.hid (HRR.out.below (bnew y3 (.cells (cfgc (cutC c) A2 cap2).toArray 35))); have HRX := Lib.hid (HR3.out.below (bnew y3 (.cells (cfgc (cutC c) A2 cap2).toArray 35)))))
          | (go_at_call 17; ((refine (known_any _).mono ?_); (rintro e y4 ⟨he, hb4⟩; subst he; have HB4 := Lib.hid (HBA.out.trans' hb4); have HP4 := Lib.hid (HPA.out.below hb4); have HX4 := Lib.hid (HXA.out.below hb4); have HR4 := Lib.hid (HRA.out.below hb4); have HRX4 := Lib.hid (HRX.out.below hb4); clear hb4)))
          | ((with_reducible refine at_dst 38 ?_); (refine wpList_wanted (by first | (simp [Region.wanted, yielded]; done) | (simp [Region.wanted, yielded]; omega)) fun _ hK => wp_load_cells 24 _ rfl w.heap.size 0 (cfgc (cutC c) A1 cap1) rfl _ Try.underlying24 rfl info24' (fun j u hu => by rw [Nat.zero_add, HP4.out.cell, List.getElem?_toArray]; exact hu) (hK _ _ ?_)))
          | (go_at_call 32; ((refine (refcheck_any (cutC c) g1 A1 cap1 _ HR4.out HCM.out).mono ?_); (rintro e y5 ⟨he, hb5⟩; rw [HK.out] at he; subst he; have HB5 := Lib.hid (HB4.out.trans' hb5); have HP5 := Lib.hid (HP4.out.below hb5); have HX5 := Lib.hid (HX4.out.below hb5); have HR5 := Lib.hid (HR4.out.below hb5); have HRX5 := Lib.hid (HRX4.out.below hb5); clear hb5)))
          | ((with_reducible refine at_dst 60 ?_); (refine wpList_load_cells rfl 35 _ rfl y3.heap.size 0 (cfgc (cutC c) A2 cap2) rfl _ Try.underlying35 rfl info35 (fun j u hu => ?_) ?_; (rw [Nat.zero_add, HX4.out.cell, List.getElem?_toArray]; exact hu)))
          | (go_at_call 39; ((refine (capacity_bad (cutC c) _ _ g2 cap2 A2 _ HRX4.out HCM.out ?hbad).mono ?_); (case hbad => (exact .inr (.inr (.inl (by omega))))); (rintro e y6 ⟨he, hb6⟩; subst he; have HB6 := Lib.hid (HB4.out.trans' hb6); clear hb6))))
        all_goals
          go_ret
          exact ⟨rfl, HB6.out⟩
      · go_enter Try.func9, Try.ntmps9
        go_wp2_with (first
          | ((with_reducible refine at_dst 11 ?_); (refine wpList_load_cells rfl 24 _ rfl w.heap.size 0 (cfgc c A cap) rfl _ Try.underlying24 rfl info24' (fun j u hu => ?_) ?_; (rw [Nat.zero_add, HP.out.cell, List.getElem?_toArray]; exact hu)))
          | (go_at_call 14; ((refine (cut_at c g cap A _ (HR.out.below HB.out) HCL.out.1 HCL.out.2).mono ?_); (rintro e y1 ⟨A1, cap1, g1, he, h1, h2, h4, h3⟩; subst he; have HR1 := Lib.hid h1; have HC1 := Lib.hid h2; have HG1 : Hid (0 < (cutC c).ws.length → w.heap.size < g1) := Lib.hid (fun h => by have := h4 h; simp at this; omega); have HB1 := Lib.hid (HB.out.trans' h3); have HP1 := Lib.hid (HP.out.below h3); clear h1 h2 h3 h4)))
          | ((with_reducible refine at_store 24 3 ?_); (refine wpList_store_blk rfl 24 (.tmp 3) (.tmp 12) rfl w.heap.size 0 24 (cfgc c A cap) (cfgc (cutC c) A1 cap1) HP1.out (by rfl) (by rfl) info24' (by simp [cfgc]) (by simp [cfgc, Value.oneCell']) ?_; intro y2 hb2 hg2 hs2; have HP2 : Hid (Blk y2 w.heap.size 24 (cfgc (cutC c) A1 cap1).toArray) := Lib.hid (by simpa [cfgc] using hb2); have HB2 := Lib.hid (HB1.out.grown hg2 HB1.out.size (fun x hx => by simp at hx; omega)); have HR2 := Lib.hid (rd_off HR1.out hg2 (fun h => by have := HG1.out h; omega)); clear hb2 hg2 hs2))
          | ((with_reducible refine at_dst 13 ?_); (refine wpList_load_cells rfl 24 _ rfl w.heap.size 0 (cfgc (cutC c) A1 cap1) rfl _ Try.underlying24 rfl info24' (fun j u hu => ?_) ?_; (rw [Nat.zero_add, HP2.out.cell, List.getElem?_toArray]; exact hu)))
          | (go_at_call 16; ((refine (config_any (cutC c) g1 cap1 A1 _ HR2.out HCM.out).mono ?_); (rintro e y3 ⟨A2, cap2, g2, he, h1, h2, h4, h3⟩; rw [cut_idem] at he h1 h2 h4; subst he; have HR3 := Lib.hid h1; have HC3 := Lib.hid h2; have HB3 := Lib.hid (HB2.out.trans' h3); have HP3 := Lib.hid (HP2.out.below h3); have HRR := Lib.hid (HR2.out.below h3); clear h1 h2 h3 h4)))
          | ((with_reducible refine at_dst 7 ?_); (refine wpList_var 35 (cfgc (cutC c) A2 cap2) _ Try.underlying35 z35 info35z rfl (by simp [cfgc, Value.oneCell']) (by simp [Act.put]) rfl ?_; have HPA := Lib.hid (HP3.out.alloc (.cells (cfgc (cutC c) A2 cap2).toArray 35)); have HXA := Lib.hid (Blk.new y3 35 (cfgc (cutC c) A2 cap2).toArray); have HBA := Lib.hid (HB3.out.trans' (bnew y3 (.cells (cfgc (cutC c) A2 cap2).toArray 35))); have HRA := Lib.hid (HRR.out.below (bnew y3 (.cells (cfgc (cutC c) A2 cap2).toArray 35))); have HRX := Lib.hid (HR3.out.below (bnew y3 (.cells (cfgc (cutC c) A2 cap2).toArray 35)))))
          | (go_at_call 17; ((refine (known_any _).mono ?_); (rintro e y4 ⟨he, hb4⟩; subst he; have HB4 := Lib.hid (HBA.out.trans' hb4); have HP4 := Lib.hid (HPA.out.below hb4); have HX4 := Lib.hid (HXA.out.below hb4); have HR4 := Lib.hid (HRA.out.below hb4); have HRX4 := Lib.hid (HRX.out.below hb4); clear hb4)))
          | ((with_reducible refine at_dst 38 ?_); (refine wpList_wanted (by first | (simp [Region.wanted, yielded]; done) | (simp [Region.wanted, yielded]; omega)) fun _ hK => wp_load_cells 24 _ rfl w.heap.size 0 (cfgc (cutC c) A1 cap1) rfl _ Try.underlying24 rfl info24' (fun j u hu => by rw [Nat.zero_add, HP4.out.cell, List.getElem?_toArray]; exact hu) (hK _ _ ?_)))
          | (go_at_call 32; ((refine (refcheck_any (cutC c) g1 A1 cap1 _ HR4.out HCM.out).mono ?_); (rintro e y5 ⟨he, hb5⟩; rw [HK.out] at he; subst he; have HB5 := Lib.hid (HB4.out.trans' hb5); have HP5 := Lib.hid (HP4.out.below hb5); have HX5 := Lib.hid (HX4.out.below hb5); have HR5 := Lib.hid (HR4.out.below hb5); have HRX5 := Lib.hid (HRX4.out.below hb5); clear hb5)))
          | ((with_reducible refine at_dst 60 ?_); (refine wpList_load_cells rfl 35 _ rfl y3.heap.size 0 (cfgc (cutC c) A2 cap2) rfl _ Try.underlying35 rfl info35 (fun j u hu => ?_) ?_; (rw [Nat.zero_add, HX4.out.cell, List.getElem?_toArray]; exact hu)))
          | (go_at_call 39; ((refine (capacity_bad (cutC c) _ _ g2 cap2 A2 _ HRX4.out HCM.out ?hbad).mono ?_); (case hbad => (exact .inr (.inr (.inl (by omega))))); (rintro e y6 ⟨he, hb6⟩; subst he; have HB6 := Lib.hid (HB4.out.trans' hb6); clear hb6))))
        all_goals
          go_ret
          exact ⟨rfl, HB6.out⟩
      · have hkb : (K == 0) = false := by simpa using h0
        have hkb2 : (K != 0) = true := by simpa using h0
        go_enter Try.func9, Try.ntmps9
        go_wp2_with (first
          | ((with_reducible refine at_dst 11 ?_); (refine wpList_load_cells rfl 24 _ rfl w.heap.size 0 (cfgc c A cap) rfl _ Try.underlying24 rfl info24' (fun j u hu => ?_) ?_; (rw [Nat.zero_add, HP.out.cell, List.getElem?_toArray]; exact hu)))
          | (go_at_call 14; ((refine (cut_at c g cap A _ (HR.out.below HB.out) HCL.out.1 HCL.out.2).mono ?_); (rintro e y1 ⟨A1, cap1, g1, he, h1, h2, h4, h3⟩; subst he; have HR1 := Lib.hid h1; have HC1 := Lib.hid h2; have HG1 : Hid (0 < (cutC c).ws.length → w.heap.size < g1) := Lib.hid (fun h => by have := h4 h; simp at this; omega); have HB1 := Lib.hid (HB.out.trans' h3); have HP1 := Lib.hid (HP.out.below h3); clear h1 h2 h3 h4)))
          | ((with_reducible refine at_store 24 3 ?_); (refine wpList_store_blk rfl 24 (.tmp 3) (.tmp 12) rfl w.heap.size 0 24 (cfgc c A cap) (cfgc (cutC c) A1 cap1) HP1.out (by rfl) (by rfl) info24' (by simp [cfgc]) (by simp [cfgc, Value.oneCell']) ?_; intro y2 hb2 hg2 hs2; have HP2 : Hid (Blk y2 w.heap.size 24 (cfgc (cutC c) A1 cap1).toArray) := Lib.hid (by simpa [cfgc] using hb2); have HB2 := Lib.hid (HB1.out.grown hg2 HB1.out.size (fun x hx => by simp at hx; omega)); have HR2 := Lib.hid (rd_off HR1.out hg2 (fun h => by have := HG1.out h; omega)); clear hb2 hg2 hs2))
          | ((with_reducible refine at_dst 13 ?_); (refine wpList_load_cells rfl 24 _ rfl w.heap.size 0 (cfgc (cutC c) A1 cap1) rfl _ Try.underlying24 rfl info24' (fun j u hu => ?_) ?_; (rw [Nat.zero_add, HP2.out.cell, List.getElem?_toArray]; exact hu)))
          | (go_at_call 16; ((refine (config_any (cutC c) g1 cap1 A1 _ HR2.out HCM.out).mono ?_); (rintro e y3 ⟨A2, cap2, g2, he, h1, h2, h4, h3⟩; rw [cut_idem] at he h1 h2 h4; subst he; have HR3 := Lib.hid h1; have HC3 := Lib.hid h2; have HB3 := Lib.hid (HB2.out.trans' h3); have HP3 := Lib.hid (HP2.out.below h3); have HRR := Lib.hid (HR2.out.below h3); clear h1 h2 h3 h4)))
          | ((with_reducible refine at_dst 7 ?_); (refine wpList_var 35 (cfgc (cutC c) A2 cap2) _ Try.underlying35 z35 info35z rfl (by simp [cfgc, Value.oneCell']) (by simp [Act.put]) rfl ?_; have HPA := Lib.hid (HP3.out.alloc (.cells (cfgc (cutC c) A2 cap2).toArray 35)); have HXA := Lib.hid (Blk.new y3 35 (cfgc (cutC c) A2 cap2).toArray); have HBA := Lib.hid (HB3.out.trans' (bnew y3 (.cells (cfgc (cutC c) A2 cap2).toArray 35))); have HRA := Lib.hid (HRR.out.below (bnew y3 (.cells (cfgc (cutC c) A2 cap2).toArray 35))); have HRX := Lib.hid (HR3.out.below (bnew y3 (.cells (cfgc (cutC c) A2 cap2).toArray 35)))))
          | (go_at_call 17; ((refine (known_any _).mono ?_); (rintro e y4 ⟨he, hb4⟩; subst he; have HB4 := Lib.hid (HBA.out.trans' hb4); have HP4 := Lib.hid (HPA.out.below hb4); have HX4 := Lib.hid (HXA.out.below hb4); have HR4 := Lib.hid (HRA.out.below hb4); have HRX4 := Lib.hid (HRX.out.below hb4); clear hb4)))
          | ((with_reducible refine at_dst 38 ?_); (refine wpList_wanted (by first | (simp [Region.wanted, yielded]; done) | (simp [Region.wanted, yielded]; omega)) fun _ hK => wp_load_cells 24 _ rfl w.heap.size 0 (cfgc (cutC c) A1 cap1) rfl _ Try.underlying24 rfl info24' (fun j u hu => by rw [Nat.zero_add, HP4.out.cell, List.getElem?_toArray]; exact hu) (hK _ _ ?_)))
          | (go_at_call 32; ((refine (refcheck_any (cutC c) g1 A1 cap1 _ HR4.out HCM.out).mono ?_); (rintro e y5 ⟨he, hb5⟩; rw [HK.out] at he; subst he; have HB5 := Lib.hid (HB4.out.trans' hb5); have HP5 := Lib.hid (HP4.out.below hb5); have HX5 := Lib.hid (HX4.out.below hb5); have HR5 := Lib.hid (HR4.out.below hb5); have HRX5 := Lib.hid (HRX4.out.below hb5); clear hb5)))
          | ((with_reducible refine at_dst 60 ?_); (refine wpList_load_cells rfl 35 _ rfl y3.heap.size 0 (cfgc (cutC c) A2 cap2) rfl _ Try.underlying35 rfl info35 (fun j u hu => ?_) ?_; (rw [Nat.zero_add, HX5.out.cell, List.getElem?_toArray]; exact hu)))
          | (go_at_call 39; ((refine (capacity_bad (cutC c) _ _ g2 cap2 A2 _ HRX5.out HCM.out ?hbad).mono ?_); (case hbad => (exact .inr (.inr (.inr (by rw [HK.out]; exact h0))))); (rintro e y6 ⟨he, hb6⟩; subst he; have HB6 := Lib.hid (HB5.out.trans' hb6); clear hb6))))
        all_goals
          go_ret
          exact ⟨rfl, HB6.out⟩
set_option maxRecDepth 20000 in
set_option maxHeartbeats 8000000 in
theorem cap_in (c : Cfg) (f n : Int) (l g cap : Nat) (A : Option Addr) (w : World) (hr : Rd w g 2 A c.ws.length (c.ws.flatMap winc)) (hc : c.ws.length ≤ cap) (hl : cap ≤ maxLen) (hf : 0 ≤ f) (hn : 0 ≤ n) (hll : (l : Int) = if 500 < n then n % 500 else n) (hok : chkC (cutC c) = 0) (hx : f + (if 500 < n then n % 500 else n) ≤ 10000000) :
    Calls Try.prog 9 #[.agg (cfgc c A cap).toArray, .int .i64 f, .int .i64 n] w fun e w' => e = .returned (.bool true) ∧ Below w.heap.size w w' := by
  have HK := Lib.hid hok
  clear hok
  have HR := Lib.hid hr
  have HCL := Lib.hid (And.intro hc hl)
  have HCM : Hid ((cutC c).ws.length ≤ maxLen) := Lib.hid (Nat.le_trans (cut_len c) (by unfold maxLen; omega))
  have HP := Lib.hid (Blk.new w 24 (cfgc c A cap).toArray)
  have HB := Lib.hid (bnew w (.cells (cfgc c A cap).toArray 24))
  clear hr hc hl
  by_cases h5 : 500 < n
  · rw [if_pos h5] at hx hll
    have h3 : 0 ≤ n % 500 := by omega
    have h4 : n % 500 < 500 := by omega
    go_enter Try.func9, Try.ntmps9
    go_wp2_with (first
      | ((with_reducible refine at_dst 11 ?_); (refine wpList_load_cells rfl 24 _ rfl w.heap.size 0 (cfgc c A cap) rfl _ Try.underlying24 rfl info24' (fun j u hu => ?_) ?_; (rw [Nat.zero_add, HP.out.cell, List.getElem?_toArray]; exact hu)))
      | (go_at_call 14; ((refine (cut_at c g cap A _ (HR.out.below HB.out) HCL.out.1 HCL.out.2).mono ?_); (rintro e y1 ⟨A1, cap1, g1, he, h1, h2, h4, h3⟩; subst he; have HR1 := Lib.hid h1; have HC1 := Lib.hid h2; have HG1 : Hid (0 < (cutC c).ws.length → w.heap.size < g1) := Lib.hid (fun h => by have := h4 h; simp at this; omega); have HB1 := Lib.hid (HB.out.trans' h3); have HP1 := Lib.hid (HP.out.below h3); clear h1 h2 h3 h4)))
      | ((with_reducible refine at_store 24 3 ?_); (refine wpList_store_blk rfl 24 (.tmp 3) (.tmp 12) rfl w.heap.size 0 24 (cfgc c A cap) (cfgc (cutC c) A1 cap1) HP1.out (by rfl) (by rfl) info24' (by simp [cfgc]) (by simp [cfgc, Value.oneCell']) ?_; intro y2 hb2 hg2 hs2; have HP2 : Hid (Blk y2 w.heap.size 24 (cfgc (cutC c) A1 cap1).toArray) := Lib.hid (by simpa [cfgc] using hb2); have HB2 := Lib.hid (HB1.out.grown hg2 HB1.out.size (fun x hx => by simp at hx; omega)); have HR2 := Lib.hid (rd_off HR1.out hg2 (fun h => by have := HG1.out h; omega)); clear hb2 hg2 hs2))
      | ((with_reducible refine at_dst 13 ?_); (refine wpList_load_cells rfl 24 _ rfl w.heap.size 0 (cfgc (cutC c) A1 cap1) rfl _ Try.underlying24 rfl info24' (fun j u hu => ?_) ?_; (rw [Nat.zero_add, HP2.out.cell, List.getElem?_toArray]; exact hu)))
      | (go_at_call 16; ((refine (config_any (cutC c) g1 cap1 A1 _ HR2.out HCM.out).mono ?_); (rintro e y3 ⟨A2, cap2, g2, he, h1, h2, h4, h3⟩; rw [cut_idem] at he h1 h2 h4; subst he; have HR3 := Lib.hid h1; have HC3 := Lib.hid h2; have HB3 := Lib.hid (HB2.out.trans' h3); have HP3 := Lib.hid (HP2.out.below h3); have HRR := Lib.hid (HR2.out.below h3); clear h1 h2 h3 h4)))
      | ((with_reducible refine at_dst 7 ?_); (refine wpList_var 35 (cfgc (cutC c) A2 cap2) _ Try.underlying35 z35 info35z rfl (by simp [cfgc, Value.oneCell']) (by simp [Act.put]) rfl ?_; have HPA := Lib.hid (HP3.out.alloc (.cells (cfgc (cutC c) A2 cap2).toArray 35)); have HXA := Lib.hid (Blk.new y3 35 (cfgc (cutC c) A2 cap2).toArray); have HBA := Lib.hid (HB3.out.trans' (bnew y3 (.cells (cfgc (cutC c) A2 cap2).toArray 35))); have HRA := Lib.hid (HRR.out.below (bnew y3 (.cells (cfgc (cutC c) A2 cap2).toArray 35))); have HRX := Lib.hid (HR3.out.below (bnew y3 (.cells (cfgc (cutC c) A2 cap2).toArray 35)))))
      | (go_at_call 17; ((refine (known_any _).mono ?_); (rintro e y4 ⟨he, hb4⟩; subst he; have HB4 := Lib.hid (HBA.out.trans' hb4); have HP4 := Lib.hid (HPA.out.below hb4); have HX4 := Lib.hid (HXA.out.below hb4); have HR4 := Lib.hid (HRA.out.below hb4); have HRX4 := Lib.hid (HRX.out.below hb4); clear hb4)))
      | ((with_reducible refine at_dst 38 ?_); (refine wpList_wanted (by first | (simp [Region.wanted, yielded]; done) | (simp [Region.wanted, yielded]; omega)) fun _ hK => wp_load_cells 24 _ rfl w.heap.size 0 (cfgc (cutC c) A1 cap1) rfl _ Try.underlying24 rfl info24' (fun j u hu => by rw [Nat.zero_add, HP4.out.cell, List.getElem?_toArray]; exact hu) (hK _ _ ?_)))
      | (go_at_call 32; ((refine (refcheck_any (cutC c) g1 A1 cap1 _ HR4.out HCM.out).mono ?_); (rintro e y5 ⟨he, hb5⟩; rw [HK.out] at he; subst he; have HB5 := Lib.hid (HB4.out.trans' hb5); have HP5 := Lib.hid (HP4.out.below hb5); have HX5 := Lib.hid (HX4.out.below hb5); have HR5 := Lib.hid (HR4.out.below hb5); have HRX5 := Lib.hid (HRX4.out.below hb5); clear hb5)))
      | fail)
    go_loopw [9, 10] (fun nv iv wr => ∃ k : Nat, k ≤ l ∧ nv = .int .i64 (cntC (cutC c) f k) ∧ iv = .int .i64 (f + k) ∧ Hid (Below y5.heap.size y5 wr)) (fun _ iv _ => l - (intOf iv - f).toNat)
    case atStart => exact ⟨0, Nat.zero_le _, rfl, by simp, Lib.hid (Below.refl _ _)⟩
    case round =>
      obtain ⟨k, hk, rfl, rfl, HBR⟩ := hrel
      have HPR := Lib.hid (HP5.out.below HBR.out)
      have HRR2 := Lib.hid (HR5.out.below HBR.out)
      obtain ⟨cn, hcn⟩ : ∃ x, x = cntC (cutC c) f k := ⟨_, rfl⟩
      have hcb := cnt_bd (cutC c) f k
      rw [← hcn] at hcb ⊢
      have HCN := Lib.hid hcn
      obtain ⟨hcb0, hcb1⟩ := hcb
      clear hcn
      by_cases hlt : k < l
      · have hlt2 : f + (k : Int) < f + n % 500 := by omega
        have hkb : f + (k : Int) ≤ 10000000 := by omega
        obtain ⟨cb, hcb⟩ : ∃ b, conC (cutC c) (f + k) = b := ⟨_, rfl⟩
        have hst : cntC (cutC c) f (k + 1) = cn + (if cb = true then 1 else 0) := by rw [HCN.out, ← hcb]; rfl
        have HST := Lib.hid hst
        have HCBB := Lib.hid hcb
        clear hst hcb
        cases cb
        · go_wp2_with (first
            | ((with_reducible refine at_dst 73 ?_); (refine wpList_load_cells rfl 24 _ rfl w.heap.size 0 (cfgc (cutC c) A1 cap1) rfl _ Try.underlying24 rfl info24' (fun j u hu => ?_) ?_; (rw [Nat.zero_add, HPR.out.cell, List.getElem?_toArray]; exact hu)))
            | (go_at_call 35; ((refine (refcon_any (cutC c) _ g1 cap1 A1 _ HRR2.out HCM.out).mono ?_); (rintro e y6 ⟨he, hb6⟩; rw [HCBB.out] at he; subst he; have HB6 := Lib.hid hb6; clear hb6))))
          go_roundw
          case rel => exact ⟨k + 1, by omega, by rw [show cntC (cutC c) f (k + 1) = cn from by rw [HST.out]; simp], by go_num, Lib.hid (HBR.out.trans' HB6.out)⟩
          case measure => simp [intOf]; omega
        · go_wp2_with (first
            | ((with_reducible refine at_dst 73 ?_); (refine wpList_load_cells rfl 24 _ rfl w.heap.size 0 (cfgc (cutC c) A1 cap1) rfl _ Try.underlying24 rfl info24' (fun j u hu => ?_) ?_; (rw [Nat.zero_add, HPR.out.cell, List.getElem?_toArray]; exact hu)))
            | (go_at_call 35; ((refine (refcon_any (cutC c) _ g1 cap1 A1 _ HRR2.out HCM.out).mono ?_); (rintro e y6 ⟨he, hb6⟩; rw [HCBB.out] at he; subst he; have HB6 := Lib.hid hb6; clear hb6))))
          go_roundw
          case rel => exact ⟨k + 1, by omega, by rw [show cntC (cutC c) f (k + 1) = cn + 1 from by rw [HST.out]; simp] <;> go_num, by go_num, Lib.hid (HBR.out.trans' HB6.out)⟩
          case measure => simp [intOf]; omega
      · have hkl : k = l := by omega
        have hlt2 : ¬ f + (k : Int) < f + n % 500 := by omega
        have HXR := Lib.hid (HX5.out.below HBR.out)
        have HRX2 := Lib.hid (HRX5.out.below HBR.out)
        have HBR2 := Lib.hid (HB5.out.trans' HBR.out)
        have hmu : (cutC c).rate * (beforeC (cutC c) (f + n % 500) - beforeC (cutC c) f) = cn * (cutC c).rate := by
          have := cnt_before (c := cutC c) (a := f) HK.out (by omega) k
          rw [show f + n % 500 = f + (k : Int) by omega, this, ← HCN.out, Int.mul_comm]
        obtain ⟨P, hP⟩ : ∃ P, cn * (cutC c).rate = P := ⟨_, rfl⟩
        rw [hP] at hmu
        have hrt := chk_del HK.out
        have e1 : cn * (cutC c).rate ≤ 1000 * 1048576 := Int.le_trans (Int.mul_le_mul_of_nonneg_right (show cn ≤ 1000 by omega) (by omega)) (Int.mul_le_mul_of_nonneg_left hrt.2.1 (by omega))
        have e2 : 0 ≤ cn * (cutC c).rate := Int.mul_nonneg hcb0 (by omega)
        have HW : Hid (IntKind.i64.wrap (cn * (cutC c).rate) = P) := Lib.hid (by rw [← hP]; exact IntWalk.i64_in _ (by omega))
        have HMU := Lib.hid hmu
        have HSW : Hid (IntKind.i64.wrap (f + n % 500) = f + n % 500) := Lib.hid (IntWalk.i64_in _ (by omega))
        have HFB := Lib.hid (show 0 ≤ f ∧ f ≤ f + n % 500 ∧ f + n % 500 ≤ 10000000 by omega)
        clear hmu hP e1 e2 hrt hkl
        go_wp2
        refine wp_region_seq (nt := 89) (by kernel_rfl) [0,1,2,3,4,5,6,7,8,9,10,11] [] Rb Rb.refl Rb.trans [(5, fun v _ => v = .int .i64 P)] (by kernel_rfl) (by simp) rfl (by kernel_rfl) (by simp) ⟨fun _ _ _ _ _ h => h, trivial⟩ ?_
        (refine' Sq.det (E := _) (b := _) (by rfl) (by rfl) (by rfl) (fun w' hR hf => ?_) ?_ ?_; rotate_left 2; (· (refine exec_load_cells 35 _ y3.heap.size 0 (cfgc (cutC c) A2 cap2) ?_ _ Try.underlying35 rfl info35 (fun j u hu => ?_); (· kernel_rfl); (rw [Nat.zero_add, (HXR.out.below (below_undrew hR)).cell, List.getElem?_toArray]; exact hu))); (· (simp only [Act.put, List.setIfInBounds_toArray, List.set_cons_zero, List.set_cons_succ]; first | done | rfl)))
        iterate 3 (refine' Sq.det (E := _) (b := _) (by rfl) (by rfl) (by rfl) (fun w' hR hf => ?_) ?_ ?_; rotate_left 2; (· (go_simp; first | done | with_reducible rfl)); (· (simp only [Act.put, List.setIfInBounds_toArray, List.set_cons_zero, List.set_cons_succ]; first | done | rfl)))
        (refine' Sq.det (E := _) (b := _) (by rfl) (by rfl) (by rfl) (fun w' hR hf => ?_) ?_ ?_; rotate_left 2; (· (have hc := HSW.out; go_simp; first | done | with_reducible rfl)); (· (simp only [Act.put, List.setIfInBounds_toArray, List.set_cons_zero, List.set_cons_succ]; first | done | rfl)))
        (refine' Sq.any (f := _) (by rfl) (by rfl) (by rfl) (fun w' hR hf => ?_) (fun v => ?_) (fun v5 => ?_); (· (go_wp2_with (go_at_call 39; refine (capacity_ok (cutC c) f _ g2 cap2 A2 w' (HRX2.out.below (below_undrew hR)) HCM.out HK.out HFB.out.1 HFB.out.2.1 HFB.out.2.2).mono ?_; rintro e w1 ⟨he, hb1⟩; rw [HMU.out] at he; subst he); exact hb1)); rotate_left 1; (· (simp only [Act.put, List.setIfInBounds_toArray, List.set_cons_zero, List.set_cons_succ]; first | done | rfl)))
        iterate 2 (refine' Sq.det (E := _) (b := _) (by rfl) (by rfl) (by rfl) (fun w' hR hf => ?_) ?_ ?_; rotate_left 2; (· (go_simp; first | done | with_reducible rfl)); (· (simp only [Act.put, List.setIfInBounds_toArray, List.set_cons_zero, List.set_cons_succ]; first | done | rfl)))
        (refine' Sq.det (E := _) (b := _) (by rfl) (by rfl) (by rfl) (fun w' hR hf => ?_) ?_ ?_; rotate_left 2; (· (have hc : w'.cell? ⟨w.heap.size, 0, none⟩ = some (.int .i64 (cutC c).rate) := (HPR.out.below (below_undrew hR)).cell 0; go_simp; first | done | with_reducible rfl)); (· (simp only [Act.put, List.setIfInBounds_toArray, List.set_cons_zero, List.set_cons_succ]; first | done | rfl)))
        (refine' Sq.det (E := _) (b := _) (by rfl) (by rfl) (by rfl) (fun w' hR hf => ?_) ?_ ?_; rotate_left 2; (· (have hc := HW.out; go_simp; first | done | with_reducible rfl)); (· (simp only [Act.put, List.setIfInBounds_toArray, List.set_cons_zero, List.set_cons_succ]; first | done | rfl)))
        (refine' Sq.det (E := _) (b := _) (by rfl) (by rfl) (by rfl) (fun w' hR hf => ?_) ?_ ?_; rotate_left 2; (· (obtain rfl : v5 = .int .i64 P := hf 5 (by decide) _ rfl; go_simp; first | done | with_reducible rfl)); (· (simp only [Act.put, List.setIfInBounds_toArray, List.set_cons_zero, List.set_cons_succ]; first | done | rfl)))
        (refine' Sq.det (E := _) (b := _) (by rfl) (by rfl) (by rfl) (fun w' hR hf => ?_) ?_ ?_; rotate_left 2; (· (go_simp; first | done | with_reducible rfl)); (· (simp only [Act.put, List.setIfInBounds_toArray, List.set_cons_zero, List.set_cons_succ]; first | done | rfl)))
        refine Sq.done fun y hR _ => ?_
        have HY := Lib.hid (HBR2.out.trans' (below_undrew hR))
        clear hR
        go_wp2
        go_ret
        exact ⟨rfl, HY.out⟩
  · rw [if_neg h5] at hx hll
    go_enter Try.func9, Try.ntmps9
    go_wp2_with (first
      | ((with_reducible refine at_dst 11 ?_); (refine wpList_load_cells rfl 24 _ rfl w.heap.size 0 (cfgc c A cap) rfl _ Try.underlying24 rfl info24' (fun j u hu => ?_) ?_; (rw [Nat.zero_add, HP.out.cell, List.getElem?_toArray]; exact hu)))
      | (go_at_call 14; ((refine (cut_at c g cap A _ (HR.out.below HB.out) HCL.out.1 HCL.out.2).mono ?_); (rintro e y1 ⟨A1, cap1, g1, he, h1, h2, h4, h3⟩; subst he; have HR1 := Lib.hid h1; have HC1 := Lib.hid h2; have HG1 : Hid (0 < (cutC c).ws.length → w.heap.size < g1) := Lib.hid (fun h => by have := h4 h; simp at this; omega); have HB1 := Lib.hid (HB.out.trans' h3); have HP1 := Lib.hid (HP.out.below h3); clear h1 h2 h3 h4)))
      | ((with_reducible refine at_store 24 3 ?_); (refine wpList_store_blk rfl 24 (.tmp 3) (.tmp 12) rfl w.heap.size 0 24 (cfgc c A cap) (cfgc (cutC c) A1 cap1) HP1.out (by rfl) (by rfl) info24' (by simp [cfgc]) (by simp [cfgc, Value.oneCell']) ?_; intro y2 hb2 hg2 hs2; have HP2 : Hid (Blk y2 w.heap.size 24 (cfgc (cutC c) A1 cap1).toArray) := Lib.hid (by simpa [cfgc] using hb2); have HB2 := Lib.hid (HB1.out.grown hg2 HB1.out.size (fun x hx => by simp at hx; omega)); have HR2 := Lib.hid (rd_off HR1.out hg2 (fun h => by have := HG1.out h; omega)); clear hb2 hg2 hs2))
      | ((with_reducible refine at_dst 13 ?_); (refine wpList_load_cells rfl 24 _ rfl w.heap.size 0 (cfgc (cutC c) A1 cap1) rfl _ Try.underlying24 rfl info24' (fun j u hu => ?_) ?_; (rw [Nat.zero_add, HP2.out.cell, List.getElem?_toArray]; exact hu)))
      | (go_at_call 16; ((refine (config_any (cutC c) g1 cap1 A1 _ HR2.out HCM.out).mono ?_); (rintro e y3 ⟨A2, cap2, g2, he, h1, h2, h4, h3⟩; rw [cut_idem] at he h1 h2 h4; subst he; have HR3 := Lib.hid h1; have HC3 := Lib.hid h2; have HB3 := Lib.hid (HB2.out.trans' h3); have HP3 := Lib.hid (HP2.out.below h3); have HRR := Lib.hid (HR2.out.below h3); clear h1 h2 h3 h4)))
      | ((with_reducible refine at_dst 7 ?_); (refine wpList_var 35 (cfgc (cutC c) A2 cap2) _ Try.underlying35 z35 info35z rfl (by simp [cfgc, Value.oneCell']) (by simp [Act.put]) rfl ?_; have HPA := Lib.hid (HP3.out.alloc (.cells (cfgc (cutC c) A2 cap2).toArray 35)); have HXA := Lib.hid (Blk.new y3 35 (cfgc (cutC c) A2 cap2).toArray); have HBA := Lib.hid (HB3.out.trans' (bnew y3 (.cells (cfgc (cutC c) A2 cap2).toArray 35))); have HRA := Lib.hid (HRR.out.below (bnew y3 (.cells (cfgc (cutC c) A2 cap2).toArray 35))); have HRX := Lib.hid (HR3.out.below (bnew y3 (.cells (cfgc (cutC c) A2 cap2).toArray 35)))))
      | (go_at_call 17; ((refine (known_any _).mono ?_); (rintro e y4 ⟨he, hb4⟩; subst he; have HB4 := Lib.hid (HBA.out.trans' hb4); have HP4 := Lib.hid (HPA.out.below hb4); have HX4 := Lib.hid (HXA.out.below hb4); have HR4 := Lib.hid (HRA.out.below hb4); have HRX4 := Lib.hid (HRX.out.below hb4); clear hb4)))
      | ((with_reducible refine at_dst 38 ?_); (refine wpList_wanted (by first | (simp [Region.wanted, yielded]; done) | (simp [Region.wanted, yielded]; omega)) fun _ hK => wp_load_cells 24 _ rfl w.heap.size 0 (cfgc (cutC c) A1 cap1) rfl _ Try.underlying24 rfl info24' (fun j u hu => by rw [Nat.zero_add, HP4.out.cell, List.getElem?_toArray]; exact hu) (hK _ _ ?_)))
      | (go_at_call 32; ((refine (refcheck_any (cutC c) g1 A1 cap1 _ HR4.out HCM.out).mono ?_); (rintro e y5 ⟨he, hb5⟩; rw [HK.out] at he; subst he; have HB5 := Lib.hid (HB4.out.trans' hb5); have HP5 := Lib.hid (HP4.out.below hb5); have HX5 := Lib.hid (HX4.out.below hb5); have HR5 := Lib.hid (HR4.out.below hb5); have HRX5 := Lib.hid (HRX4.out.below hb5); clear hb5)))
      | fail)
    go_loopw [9, 10] (fun nv iv wr => ∃ k : Nat, k ≤ l ∧ nv = .int .i64 (cntC (cutC c) f k) ∧ iv = .int .i64 (f + k) ∧ Hid (Below y5.heap.size y5 wr)) (fun _ iv _ => l - (intOf iv - f).toNat)
    case atStart => exact ⟨0, Nat.zero_le _, rfl, by simp, Lib.hid (Below.refl _ _)⟩
    case round =>
      obtain ⟨k, hk, rfl, rfl, HBR⟩ := hrel
      have HPR := Lib.hid (HP5.out.below HBR.out)
      have HRR2 := Lib.hid (HR5.out.below HBR.out)
      obtain ⟨cn, hcn⟩ : ∃ x, x = cntC (cutC c) f k := ⟨_, rfl⟩
      have hcb := cnt_bd (cutC c) f k
      rw [← hcn] at hcb ⊢
      have HCN := Lib.hid hcn
      obtain ⟨hcb0, hcb1⟩ := hcb
      clear hcn
      by_cases hlt : k < l
      · have hlt2 : f + (k : Int) < f + n := by omega
        have hkb : f + (k : Int) ≤ 10000000 := by omega
        obtain ⟨cb, hcb⟩ : ∃ b, conC (cutC c) (f + k) = b := ⟨_, rfl⟩
        have hst : cntC (cutC c) f (k + 1) = cn + (if cb = true then 1 else 0) := by rw [HCN.out, ← hcb]; rfl
        have HST := Lib.hid hst
        have HCBB := Lib.hid hcb
        clear hst hcb
        cases cb
        · go_wp2_with (first
            | ((with_reducible refine at_dst 73 ?_); (refine wpList_load_cells rfl 24 _ rfl w.heap.size 0 (cfgc (cutC c) A1 cap1) rfl _ Try.underlying24 rfl info24' (fun j u hu => ?_) ?_; (rw [Nat.zero_add, HPR.out.cell, List.getElem?_toArray]; exact hu)))
            | (go_at_call 35; ((refine (refcon_any (cutC c) _ g1 cap1 A1 _ HRR2.out HCM.out).mono ?_); (rintro e y6 ⟨he, hb6⟩; rw [HCBB.out] at he; subst he; have HB6 := Lib.hid hb6; clear hb6))))
          go_roundw
          case rel => exact ⟨k + 1, by omega, by rw [show cntC (cutC c) f (k + 1) = cn from by rw [HST.out]; simp], by go_num, Lib.hid (HBR.out.trans' HB6.out)⟩
          case measure => simp [intOf]; omega
        · go_wp2_with (first
            | ((with_reducible refine at_dst 73 ?_); (refine wpList_load_cells rfl 24 _ rfl w.heap.size 0 (cfgc (cutC c) A1 cap1) rfl _ Try.underlying24 rfl info24' (fun j u hu => ?_) ?_; (rw [Nat.zero_add, HPR.out.cell, List.getElem?_toArray]; exact hu)))
            | (go_at_call 35; ((refine (refcon_any (cutC c) _ g1 cap1 A1 _ HRR2.out HCM.out).mono ?_); (rintro e y6 ⟨he, hb6⟩; rw [HCBB.out] at he; subst he; have HB6 := Lib.hid hb6; clear hb6))))
          go_roundw
          case rel => exact ⟨k + 1, by omega, by rw [show cntC (cutC c) f (k + 1) = cn + 1 from by rw [HST.out]; simp] <;> go_num, by go_num, Lib.hid (HBR.out.trans' HB6.out)⟩
          case measure => simp [intOf]; omega
      · have hkl : k = l := by omega
        have hlt2 : ¬ f + (k : Int) < f + n := by omega
        have HXR := Lib.hid (HX5.out.below HBR.out)
        have HRX2 := Lib.hid (HRX5.out.below HBR.out)
        have HBR2 := Lib.hid (HB5.out.trans' HBR.out)
        have hmu : (cutC c).rate * (beforeC (cutC c) (f + n) - beforeC (cutC c) f) = cn * (cutC c).rate := by
          have := cnt_before (c := cutC c) (a := f) HK.out (by omega) k
          rw [show f + n = f + (k : Int) by omega, this, ← HCN.out, Int.mul_comm]
        obtain ⟨P, hP⟩ : ∃ P, cn * (cutC c).rate = P := ⟨_, rfl⟩
        rw [hP] at hmu
        have hrt := chk_del HK.out
        have e1 : cn * (cutC c).rate ≤ 1000 * 1048576 := Int.le_trans (Int.mul_le_mul_of_nonneg_right (show cn ≤ 1000 by omega) (by omega)) (Int.mul_le_mul_of_nonneg_left hrt.2.1 (by omega))
        have e2 : 0 ≤ cn * (cutC c).rate := Int.mul_nonneg hcb0 (by omega)
        have HW : Hid (IntKind.i64.wrap (cn * (cutC c).rate) = P) := Lib.hid (by rw [← hP]; exact IntWalk.i64_in _ (by omega))
        have HMU := Lib.hid hmu
        have HSW : Hid (IntKind.i64.wrap (f + n) = f + n) := Lib.hid (IntWalk.i64_in _ (by omega))
        have HFB := Lib.hid (show 0 ≤ f ∧ f ≤ f + n ∧ f + n ≤ 10000000 by omega)
        clear hmu hP e1 e2 hrt hkl
        go_wp2
        refine wp_region_seq (nt := 89) (by kernel_rfl) [0,1,2,3,4,5,6,7,8,9,10,11] [] Rb Rb.refl Rb.trans [(5, fun v _ => v = .int .i64 P)] (by kernel_rfl) (by simp) rfl (by kernel_rfl) (by simp) ⟨fun _ _ _ _ _ h => h, trivial⟩ ?_
        (refine' Sq.det (E := _) (b := _) (by rfl) (by rfl) (by rfl) (fun w' hR hf => ?_) ?_ ?_; rotate_left 2; (· (refine exec_load_cells 35 _ y3.heap.size 0 (cfgc (cutC c) A2 cap2) ?_ _ Try.underlying35 rfl info35 (fun j u hu => ?_); (· kernel_rfl); (rw [Nat.zero_add, (HXR.out.below (below_undrew hR)).cell, List.getElem?_toArray]; exact hu))); (· (simp only [Act.put, List.setIfInBounds_toArray, List.set_cons_zero, List.set_cons_succ]; first | done | rfl)))
        iterate 3 (refine' Sq.det (E := _) (b := _) (by rfl) (by rfl) (by rfl) (fun w' hR hf => ?_) ?_ ?_; rotate_left 2; (· (go_simp; first | done | with_reducible rfl)); (· (simp only [Act.put, List.setIfInBounds_toArray, List.set_cons_zero, List.set_cons_succ]; first | done | rfl)))
        (refine' Sq.det (E := _) (b := _) (by rfl) (by rfl) (by rfl) (fun w' hR hf => ?_) ?_ ?_; rotate_left 2; (· (have hc := HSW.out; go_simp; first | done | with_reducible rfl)); (· (simp only [Act.put, List.setIfInBounds_toArray, List.set_cons_zero, List.set_cons_succ]; first | done | rfl)))
        (refine' Sq.any (f := _) (by rfl) (by rfl) (by rfl) (fun w' hR hf => ?_) (fun v => ?_) (fun v5 => ?_); (· (go_wp2_with (go_at_call 39; refine (capacity_ok (cutC c) f _ g2 cap2 A2 w' (HRX2.out.below (below_undrew hR)) HCM.out HK.out HFB.out.1 HFB.out.2.1 HFB.out.2.2).mono ?_; rintro e w1 ⟨he, hb1⟩; rw [HMU.out] at he; subst he); exact hb1)); rotate_left 1; (· (simp only [Act.put, List.setIfInBounds_toArray, List.set_cons_zero, List.set_cons_succ]; first | done | rfl)))
        iterate 2 (refine' Sq.det (E := _) (b := _) (by rfl) (by rfl) (by rfl) (fun w' hR hf => ?_) ?_ ?_; rotate_left 2; (· (go_simp; first | done | with_reducible rfl)); (· (simp only [Act.put, List.setIfInBounds_toArray, List.set_cons_zero, List.set_cons_succ]; first | done | rfl)))
        (refine' Sq.det (E := _) (b := _) (by rfl) (by rfl) (by rfl) (fun w' hR hf => ?_) ?_ ?_; rotate_left 2; (· (have hc : w'.cell? ⟨w.heap.size, 0, none⟩ = some (.int .i64 (cutC c).rate) := (HPR.out.below (below_undrew hR)).cell 0; go_simp; first | done | with_reducible rfl)); (· (simp only [Act.put, List.setIfInBounds_toArray, List.set_cons_zero, List.set_cons_succ]; first | done | rfl)))
        (refine' Sq.det (E := _) (b := _) (by rfl) (by rfl) (by rfl) (fun w' hR hf => ?_) ?_ ?_; rotate_left 2; (· (have hc := HW.out; go_simp; first | done | with_reducible rfl)); (· (simp only [Act.put, List.setIfInBounds_toArray, List.set_cons_zero, List.set_cons_succ]; first | done | rfl)))
        (refine' Sq.det (E := _) (b := _) (by rfl) (by rfl) (by rfl) (fun w' hR hf => ?_) ?_ ?_; rotate_left 2; (· (obtain rfl : v5 = .int .i64 P := hf 5 (by decide) _ rfl; go_simp; first | done | with_reducible rfl)); (· (simp only [Act.put, List.setIfInBounds_toArray, List.set_cons_zero, List.set_cons_succ]; first | done | rfl)))
        (refine' Sq.det (E := _) (b := _) (by rfl) (by rfl) (by rfl) (fun w' hR hf => ?_) ?_ ?_; rotate_left 2; (· (go_simp; first | done | with_reducible rfl)); (· (simp only [Act.put, List.setIfInBounds_toArray, List.set_cons_zero, List.set_cons_succ]; first | done | rfl)))
        refine Sq.done fun y hR _ => ?_
        have HY := Lib.hid (HBR2.out.trans' (below_undrew hR))
        clear hR
        go_wp2
        go_ret
        exact ⟨rfl, HY.out⟩
theorem lineCapacity_any (c : Cfg) (f n : Int) (g cap : Nat) (A : Option Addr) (w : World) (hr : Rd w g 2 A c.ws.length (c.ws.flatMap winc)) (hc : c.ws.length ≤ cap) (hl : cap ≤ maxLen) :
    Calls Try.prog 9 #[.agg (cfgc c A cap).toArray, .int .i64 f, .int .i64 n] w fun e w' => e = .returned (.bool true) ∧ Below w.heap.size w w' := by
  by_cases hf : f < 0
  · exact cap_neg c f n g cap A w hr hc hl hf
  by_cases hn : n < 0
  · exact cap_short c f n g cap A w hr hc hl (by omega) hn
  by_cases hx : chkC (cutC c) ≠ 0 ∨ 10000000 < f + (if 500 < n then n % 500 else n)
  · exact cap_out c f n g cap A w hr hc hl (by omega) (by omega) hx
  · simp only [not_or, ne_eq, Decidable.not_not, Int.not_lt] at hx
    exact cap_in c f n (if 500 < n then n % 500 else n).toNat g cap A w hr hc hl (by omega) (by omega) (by split <;> omega) hx.1 hx.2
end Go.Proofs.Ytnddahajfcmkiaa
