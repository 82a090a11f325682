/- The law's cut once more: where the new windows lie. Conditions: none. -/
import Derived.Test.YtnddahajfcmkiaaNd
namespace Go.Proofs.Ytnddahajfcmkiaa
set_option linter.unusedSimpArgs false
set_option linter.unusedVariables false
set_option linter.unnecessarySimpa false
open Go.RowKit

set_option maxRecDepth 20000 in
set_option maxHeartbeats 1000000 in
theorem cut_at (c : Cfg) (g cap : Nat) (A : Option Addr) (w : World) (hr : Rd w g 2 A c.ws.length (c.ws.flatMap winc)) (hc : c.ws.length ≤ cap) (hl : cap ≤ maxLen) :
    Calls Try.prog 14 #[.agg (cfgc c A cap).toArray] w fun e w' => ∃ A' cap' g', e = .returned (.agg (cfgc (cutC c) A' cap').toArray) ∧ Rd w' g' 2 A' (cutC c).ws.length ((cutC c).ws.flatMap winc) ∧ (cutC c).ws.length ≤ cap' ∧ (0 < (cutC c).ws.length → w.heap.size ≤ g') ∧ Below w.heap.size w w' := by
  obtain ⟨r, d, p, ws⟩ := c
  simp only [cfgc, cutC] at hr hc ⊢
  have HR := Lib.hid hr
  obtain ⟨i0, hi0, hz0, hz1, hz2⟩ := info_parts info88'
  clear hr
  by_cases h40 : ws.length ≤ 40
  · rw [List.take_of_length_le h40]
    go_enter Try.func14, Try.ntmps14
    go_wp2_with (first
      | ((with_reducible refine at_dst 11 ?_); (refine wpList_plain rfl fun K hK => wp_app_zero (.tmp 3) (.tmp 10) 22 rfl (w.heap.size + 2) 88 i0 z62 2 16 Try.underlying22 hi0 hz0 hz1 hz2 rfl (by omega) (w.heap.size + 2) (by rfl) ?_ g A ws.length cap ((ws.flatMap winc).take (ws.length * 2)) (by rfl) ?_ ?_ ?_ ?_ ?_)))
    · refine ⟨rfl, .inr ⟨_, 0, #[], rfl, Nat.le_refl _, ?_, Nat.le_refl _, Nat.zero_le _, rfl, rfl⟩⟩
      have h := heap_alloc_new ((w.alloc (.cells #[.int .i64 r, .int .i64 d, .int .i64 p, .slice A ws.length cap] 24)).alloc (.cells #[.int .i64 0, .int .i64 0, .int .i64 0, .slice none 0 0] 24)) (.cells #[] 88)
      simpa using h
    · exact (HR.out.cutTo (Nat.le_refl _)).below (((bnew _ _).trans' (bnew _ _)).trans' (bnew _ _))
    · omega
    · omega
    · simp
    · intro v' y1 ho hb1
      refine hK _ _ ?_
      obtain ⟨A', c', rfl⟩ := own_slice ho
      have hs1 : ((w.alloc (.cells #[.int .i64 r, .int .i64 d, .int .i64 p, .slice A ws.length cap] 24)).alloc (.cells #[.int .i64 0, .int .i64 0, .int .i64 0, .slice none 0 0] 24)).heap.size = w.heap.size + 2 := by simp
      have HP1 := Lib.hid ((((Blk.new w 24 #[.int .i64 r, .int .i64 d, .int .i64 p, .slice A ws.length cap]).alloc (.cells #[.int .i64 0, .int .i64 0, .int .i64 0, .slice none 0 0] 24)).alloc (.cells #[] 88)).below (by simpa using hb1))
      have hq := ((Blk.new (w.alloc (.cells #[.int .i64 r, .int .i64 d, .int .i64 p, .slice A ws.length cap] 24)) 24 #[.int .i64 0, .int .i64 0, .int .i64 0, .slice none 0 0]).alloc (.cells #[] 88)).below (by simpa using hb1)
      rw [show (w.alloc (.cells #[.int .i64 r, .int .i64 d, .int .i64 p, .slice A ws.length cap] 24)).heap.size = w.heap.size + 1 from by simp] at hq
      have HQ := Lib.hid hq
      have HO := Lib.hid ho
      have HB1 := Lib.hid ((((bnew w _).trans' (bnew _ _)).trans' (bnew _ _)).trans' (by simpa using hb1))
      have hfz := HP1.out.frozen 3
      have hc0 := HP1.out.cell 3
      have HP2 := Lib.hid (HP1.out.set_ 3 (.slice A' ws.length c'))
      have HQ2 := Lib.hid (HQ.out.far (p := ⟨w.heap.size, 3, none⟩) (by simp) (.slice A' ws.length c'))
      clear hq ho hb1 hs1
      go_wp2_with (first
        | ((with_reducible refine at_dst 13 ?_); (refine wpList_load_cells rfl 24 _ rfl w.heap.size 0 [.int .i64 r, .int .i64 d, .int .i64 p, .slice A' ws.length c'] rfl _ Try.underlying24 rfl info24 (fun j u hu => ?_) ?_; (rw [Nat.zero_add, HP2.out.cell, ← hu]; simp)))
        | ((with_reducible refine at_store 24 2 ?_); (refine wpList_store_blk rfl 24 (.tmp 2) (.tmp 13) rfl (w.heap.size + 1) 0 24 [.int .i64 0, .int .i64 0, .int .i64 0, .slice none 0 0] [.int .i64 r, .int .i64 d, .int .i64 p, .slice A' ws.length c'] HQ2.out (by rfl) (by rfl) info24 (by simp) (by simp [Value.oneCell']) ?_; intro y3 hb3 hg3 hz3)))
      have hr0 : y3.cell? ⟨w.heap.size + 1, 0, none⟩ = some (.int .i64 r) := hb3.cell 0
      have hr1 : y3.cell? ⟨w.heap.size + 1, 1, none⟩ = some (.int .i64 d) := hb3.cell 1
      have hr2 : y3.cell? ⟨w.heap.size + 1, 2, none⟩ = some (.int .i64 p) := hb3.cell 2
      have hr3 : y3.cell? ⟨w.heap.size + 1, 3, none⟩ = some (.slice A' ws.length c') := hb3.cell 3
      refine bodyPost_ret (v := .agg #[.int .i64 r, .int .i64 d, .int .i64 p, .slice A' ws.length c']) (by simp [results, Try.results14, go_sem, hr0, hr1, hr2, hr3]) rfl ?_
      have hgs := grownBy_setCell y1 w.heap.size 3 (.slice A' ws.length c')
      have ho3 := own_grown (own_grown HO.out hgs (by omega)) hg3 (by omega)
      rw [List.take_of_length_le (by rw [length_flatMap_const winc_len]; exact Nat.le_refl _)] at ho3
      obtain ⟨g', hrd, hcc, hgb⟩ := Rd.own ho3
      exact ⟨A', c', g', rfl, hrd, hcc, fun h => by have := hgb h; omega, (HB1.out.grown hgs HB1.out.size (fun x hx => by simp at hx; omega)).grown hg3 (by have := HB1.out.size; have := hgs.size; omega) (fun x hx => by simp at hx; omega)⟩
  · have e40 : (ws.take 40).length = 40 := by simp; omega
    have h41 : 40 < ws.length := by omega
    rw [e40]
    clear e40
    go_enter Try.func14, Try.ntmps14
    go_wp2_with (first
      | ((with_reducible refine at_dst 11 ?_); (refine wpList_plain rfl fun K hK => wp_app_zero (.tmp 3) (.tmp 10) 22 rfl (w.heap.size + 2) 88 i0 z62 2 16 Try.underlying22 hi0 hz0 hz1 hz2 rfl (by omega) (w.heap.size + 2) (by rfl) ?_ g A 40 cap ((ws.flatMap winc).take (40 * 2)) (by rfl) ?_ ?_ ?_ ?_ ?_)))
    · refine ⟨rfl, .inr ⟨_, 0, #[], rfl, Nat.le_refl _, ?_, Nat.le_refl _, Nat.zero_le _, rfl, rfl⟩⟩
      have h := heap_alloc_new ((w.alloc (.cells #[.int .i64 r, .int .i64 d, .int .i64 p, .slice A ws.length cap] 24)).alloc (.cells #[.int .i64 0, .int .i64 0, .int .i64 0, .slice none 0 0] 24)) (.cells #[] 88)
      simpa using h
    · exact (HR.out.cutTo (by omega)).below (((bnew _ _).trans' (bnew _ _)).trans' (bnew _ _))
    · omega
    · omega
    · simp
    · intro v' y1 ho hb1
      refine hK _ _ ?_
      obtain ⟨A', c', rfl⟩ := own_slice ho
      have hs1 : ((w.alloc (.cells #[.int .i64 r, .int .i64 d, .int .i64 p, .slice A ws.length cap] 24)).alloc (.cells #[.int .i64 0, .int .i64 0, .int .i64 0, .slice none 0 0] 24)).heap.size = w.heap.size + 2 := by simp
      have HP1 := Lib.hid ((((Blk.new w 24 #[.int .i64 r, .int .i64 d, .int .i64 p, .slice A ws.length cap]).alloc (.cells #[.int .i64 0, .int .i64 0, .int .i64 0, .slice none 0 0] 24)).alloc (.cells #[] 88)).below (by simpa using hb1))
      have hq := ((Blk.new (w.alloc (.cells #[.int .i64 r, .int .i64 d, .int .i64 p, .slice A ws.length cap] 24)) 24 #[.int .i64 0, .int .i64 0, .int .i64 0, .slice none 0 0]).alloc (.cells #[] 88)).below (by simpa using hb1)
      rw [show (w.alloc (.cells #[.int .i64 r, .int .i64 d, .int .i64 p, .slice A ws.length cap] 24)).heap.size = w.heap.size + 1 from by simp] at hq
      have HQ := Lib.hid hq
      have HO := Lib.hid ho
      have HB1 := Lib.hid ((((bnew w _).trans' (bnew _ _)).trans' (bnew _ _)).trans' (by simpa using hb1))
      have hfz := HP1.out.frozen 3
      have hc0 := HP1.out.cell 3
      have HP2 := Lib.hid (HP1.out.set_ 3 (.slice A' 40 c'))
      have HQ2 := Lib.hid (HQ.out.far (p := ⟨w.heap.size, 3, none⟩) (by simp) (.slice A' 40 c'))
      clear hq ho hb1 hs1
      go_wp2_with (first
        | ((with_reducible refine at_dst 13 ?_); (refine wpList_load_cells rfl 24 _ rfl w.heap.size 0 [.int .i64 r, .int .i64 d, .int .i64 p, .slice A' 40 c'] rfl _ Try.underlying24 rfl info24 (fun j u hu => ?_) ?_; (rw [Nat.zero_add, HP2.out.cell, ← hu]; simp)))
        | ((with_reducible refine at_store 24 2 ?_); (refine wpList_store_blk rfl 24 (.tmp 2) (.tmp 13) rfl (w.heap.size + 1) 0 24 [.int .i64 0, .int .i64 0, .int .i64 0, .slice none 0 0] [.int .i64 r, .int .i64 d, .int .i64 p, .slice A' 40 c'] HQ2.out (by rfl) (by rfl) info24 (by simp) (by simp [Value.oneCell']) ?_; intro y3 hb3 hg3 hz3)))
      have hr0 : y3.cell? ⟨w.heap.size + 1, 0, none⟩ = some (.int .i64 r) := hb3.cell 0
      have hr1 : y3.cell? ⟨w.heap.size + 1, 1, none⟩ = some (.int .i64 d) := hb3.cell 1
      have hr2 : y3.cell? ⟨w.heap.size + 1, 2, none⟩ = some (.int .i64 p) := hb3.cell 2
      have hr3 : y3.cell? ⟨w.heap.size + 1, 3, none⟩ = some (.slice A' 40 c') := hb3.cell 3
      refine bodyPost_ret (v := .agg #[.int .i64 r, .int .i64 d, .int .i64 p, .slice A' 40 c']) (by simp [results, Try.results14, go_sem, hr0, hr1, hr2, hr3]) rfl ?_
      have hgs := grownBy_setCell y1 w.heap.size 3 (.slice A' 40 c')
      have ho3 := own_grown (own_grown HO.out hgs (by omega)) hg3 (by omega)
      rw [flatMap_take winc_len ws 40] at ho3
      obtain ⟨g', hrd, hcc, hgb⟩ := Rd.own ho3
      exact ⟨A', c', g', rfl, hrd, hcc, fun h => by have := hgb h; omega, (HB1.out.grown hgs HB1.out.size (fun x hx => by simp at hx; omega)).grown hg3 (by have := HB1.out.size; have := hgs.size; omega) (fun x hx => by simp at hx; omega)⟩
end Go.Proofs.Ytnddahajfcmkiaa
