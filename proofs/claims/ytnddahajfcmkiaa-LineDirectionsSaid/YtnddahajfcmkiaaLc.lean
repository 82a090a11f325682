/- The line: window. Conditions: those of split, at most 100,000 windows. -/
import Derived.Test.YtnddahajfcmkiaaLb
namespace Go.Proofs.Ytnddahajfcmkiaa
set_option linter.unusedSimpArgs false
set_option linter.unusedVariables false
set_option linter.unnecessarySimpa false
open Go.RowKit

def winC (c : Cfg) (m : Int) : Wn × Int × Bool := match c.ws.find? (inW (splitR c.period m)) with
  | none => (⟨0, 0⟩, 0, false)
  | some x => (x, splitB c.period m, true)
theorem info35 : (Try.prog.info? 35).map (·.size) = some 4 := by kernel_rfl
set_option maxHeartbeats 1000000 in
theorem window_any (c : Cfg) (m : Int) (g cap : Nat) (A : Option Addr) (w : World) (hr : Rd w g 2 A c.ws.length (c.ws.flatMap winc)) (hl : c.ws.length ≤ 100000) (hp0 : 0 ≤ c.period) (hm0 : 0 ≤ m) (hm1 : m ≤ 9223372036854775807) :
    Calls Try.prog 53 #[.agg (cfgc c A cap).toArray, .int .i64 m] w fun e w' => e = .returned (.tuple #[.agg (winc (winC c m).1).toArray, .int .i64 (winC c m).2.1, .bool (winC c m).2.2]) ∧ Below w.heap.size w w' := by
  obtain ⟨r, d, p, ws⟩ := c
  simp only [cfgc, winC] at hr hl hp0 ⊢
  have HR := Lib.hid hr
  have hb := bnew w (.cells #[.int .i64 r, .int .i64 d, .int .i64 p, .slice A ws.length cap] 35)
  have HB := Lib.hid hb
  have HP := Lib.hid (Blk.new w 35 #[.int .i64 r, .int .i64 d, .int .i64 p, .slice A ws.length cap])
  have HH := Lib.hid (And.intro hp0 (And.intro hm0 hm1))
  clear hr hb hp0 hm0 hm1
  obtain ⟨bs, hbs⟩ : ∃ bs, bs = splitB p m := ⟨_, rfl⟩
  obtain ⟨q, hq⟩ : ∃ q, q = splitR p m := ⟨_, rfl⟩
  rw [← hbs, ← hq]
  have HBS := Lib.hid hbs
  have HQ := Lib.hid hq
  clear hbs hq
  have hz2 : ((w.alloc (.cells #[.int .i64 r, .int .i64 d, .int .i64 p, .slice A ws.length cap] 35)).alloc (.cells #[.int .i64 0, .int .i64 0] 62)).heap.size = w.heap.size + 2 := by simp
  have HZ2 := Lib.hid hz2
  have hC := Blk.new (w.alloc (.cells #[.int .i64 r, .int .i64 d, .int .i64 p, .slice A ws.length cap] 35)) 62 #[.int .i64 0, .int .i64 0]
  rw [show (w.alloc (.cells #[.int .i64 r, .int .i64 d, .int .i64 p, .slice A ws.length cap] 35)).heap.size = w.heap.size + 1 from by simp] at hC
  have HC := Lib.hid hC
  clear hC
  have HB2 := Lib.hid (HB.out.trans' (bnew _ (.cells #[.int .i64 0, .int .i64 0] 62)))
  have HP2 := Lib.hid (HP.out.alloc (.cells #[.int .i64 0, .int .i64 0] 62))
  clear hz2
  rcases idxI_spec (inW q) ws 0 with ⟨h1, h2⟩ | ⟨k, hk, h1, h2, h3, h4⟩
  · rw [h2]
    have HI := Lib.hid h1
    clear h1 h2
    go_enter Try.func53, Try.ntmps53
    go_wp2_with (first
      | ((with_reducible refine at_dst 10 ?_); (refine wpList_load_cells rfl 35 _ rfl w.heap.size 0 [.int .i64 r, .int .i64 d, .int .i64 p, .slice A ws.length cap] rfl _ Try.underlying35 rfl info35 (fun j u hu => ?_) ?_; (rw [Nat.zero_add, HP2.out.cell, List.getElem?_toArray]; exact hu)))
      | (go_at_call 60; (refine (split_any r d p m ws.length cap _ _ HH.out.1 HH.out.2.1 HH.out.2.2).mono ?_; rintro e y1 ⟨he, hb1⟩; rw [← HBS.out, ← HQ.out] at he; subst he; have HB3 := Lib.hid (HB2.out.trans' hb1); have HP3 := Lib.hid (HP2.out.below hb1); have HC3 := Lib.hid (HC.out.below hb1); have hc3 := (HP3.out.alloc (.cells #[.int .i64 q] 3)).cell 3; clear hb1))
      | (go_at_call 61; (refine (idx_any ws q y1.heap.size g cap _ (y1.alloc (.cells #[.int .i64 q] 3)) ((HR.out.below HB3.out).below (bnew _ _)) (Blk.new _ _ _) hl).mono ?_; rintro e y2 ⟨he, hb2⟩; rw [HI.out] at he; subst he; have HB4 := Lib.hid ((HB3.out.trans' (bnew _ _)).trans' hb2); have HC4 := Lib.hid ((HC3.out.alloc (.cells #[.int .i64 q] 3)).below hb2); have HP4 := Lib.hid ((HP3.out.alloc (.cells #[.int .i64 q] 3)).below hb2); clear hc3; have hc4 := HP4.out.cell 3; clear hb2))
      | ((with_reducible refine at_dst 26 ?_); (refine wpList_load_cells rfl 62 _ rfl g (off + k * 2) (winc ws[k]) rfl _ Try.underlying62 rfl size62 (fun j u hu => (HB4.out.cell (p := ⟨g, _, none⟩) HG.out).trans (HCW.out j u hu)) ?_))
      | ((with_reducible refine at_store 62 4 ?_); (refine wpList_store_blk rfl 62 (.tmp 4) (.tmp 21) rfl (w.heap.size + 1) 0 62 [.int .i64 0, .int .i64 0] [.int .i64 0, .int .i64 0] HC4.out (by rfl) (by rfl) size62 (by simp [winc]) (by simp [winc, Value.oneCell']) ?_; intro y3 hb3 hg3 hz3; have HC5 := Lib.hid hb3; have HB5 := Lib.hid (HB4.out.grown hg3 HB4.out.size (fun x hx => by simp at hx; omega)); clear hb3 hg3 hz3)))
    have hr0 : y3.cell? ⟨w.heap.size + 1, 0, none⟩ = some (.int .i64 0) := HC5.out.cell 0
    have hr1 : y3.cell? ⟨w.heap.size + 1, 1, none⟩ = some (.int .i64 0) := HC5.out.cell 1
    refine bodyPost_ret (v := .tuple #[.agg #[.int .i64 0, .int .i64 0], .int .i64 0, .bool false]) (by simp [results, Try.results53, go_sem, hr0, hr1]) rfl ?_
    exact ⟨rfl, HB5.out⟩
  · rw [h3, Int.zero_add] at *
    have HI := Lib.hid h1
    obtain ⟨hg, off, rfl, hc⟩ := HR.out.elem winc_len hk rfl
    have HG := Lib.hid hg
    have HCW := Lib.hid hc
    clear h1 h2 h3 h4 hg hc
    go_enter Try.func53, Try.ntmps53
    go_wp2_with (first
      | ((with_reducible refine at_dst 10 ?_); (refine wpList_load_cells rfl 35 _ rfl w.heap.size 0 [.int .i64 r, .int .i64 d, .int .i64 p, .slice (some ⟨g, off, none⟩) ws.length cap] rfl _ Try.underlying35 rfl info35 (fun j u hu => ?_) ?_; (rw [Nat.zero_add, HP2.out.cell, List.getElem?_toArray]; exact hu)))
      | (go_at_call 60; (refine (split_any r d p m ws.length cap _ _ HH.out.1 HH.out.2.1 HH.out.2.2).mono ?_; rintro e y1 ⟨he, hb1⟩; rw [← HBS.out, ← HQ.out] at he; subst he; have HB3 := Lib.hid (HB2.out.trans' hb1); have HP3 := Lib.hid (HP2.out.below hb1); have HC3 := Lib.hid (HC.out.below hb1); have hc3 := (HP3.out.alloc (.cells #[.int .i64 q] 3)).cell 3; clear hb1))
      | (go_at_call 61; (refine (idx_any ws q y1.heap.size g cap _ (y1.alloc (.cells #[.int .i64 q] 3)) ((HR.out.below HB3.out).below (bnew _ _)) (Blk.new _ _ _) hl).mono ?_; rintro e y2 ⟨he, hb2⟩; rw [HI.out] at he; subst he; have HB4 := Lib.hid ((HB3.out.trans' (bnew _ _)).trans' hb2); have HC4 := Lib.hid ((HC3.out.alloc (.cells #[.int .i64 q] 3)).below hb2); have HP4 := Lib.hid ((HP3.out.alloc (.cells #[.int .i64 q] 3)).below hb2); clear hc3; have hc4 := HP4.out.cell 3; clear hb2))
      | ((with_reducible refine at_dst 26 ?_); (refine wpList_load_cells rfl 62 _ rfl g (off + k * 2) (winc ws[k]) rfl _ Try.underlying62 rfl size62 (fun j u hu => (HB4.out.cell (p := ⟨g, _, none⟩) HG.out).trans (HCW.out j u hu)) ?_))
      | ((with_reducible refine at_store 62 4 ?_); (refine wpList_store_blk rfl 62 (.tmp 4) (.tmp 26) rfl (w.heap.size + 1) 0 62 [.int .i64 0, .int .i64 0] (winc ws[k]) HC4.out (by rfl) (by rfl) size62 (by simp [winc]) (by simp [winc, Value.oneCell']) ?_; intro y3 hb3 hg3 hz3; have HC5 := Lib.hid hb3; have HB5 := Lib.hid (HB4.out.grown hg3 HB4.out.size (fun x hx => by simp at hx; omega)); clear hb3 hg3 hz3)))
    have hr0 : y3.cell? ⟨w.heap.size + 1, 0, none⟩ = some (.int .i64 ws[k].lo) := HC5.out.cell 0
    have hr1 : y3.cell? ⟨w.heap.size + 1, 1, none⟩ = some (.int .i64 ws[k].hi) := HC5.out.cell 1
    refine bodyPost_ret (v := .tuple #[.agg #[.int .i64 ws[k].lo, .int .i64 ws[k].hi], .int .i64 bs, .bool true]) (by simp [results, Try.results53, go_sem, hr0, hr1]) rfl ?_
    exact ⟨rfl, HB5.out⟩

/-- Connected -/
def conC (c : Cfg) (m : Int) : Bool := decide (0 ≤ m) && decide (chkC c = 0) && (winC c m).2.2
theorem chk_ok {c : Cfg} (h : chkC c = 0) : ¬ badC c ∧ c.ws.length ≤ 32 ∧ chkW (mostC c.period) 0 c.ws = 0 := by
  unfold chkC at h
  split at h
  · cases h
  · rename_i h1
    split at h
    · cases h
    · exact ⟨h1, by omega, h⟩
theorem chk_per {c : Cfg} (h : chkC c = 0) : 0 ≤ c.period ∧ c.period ≤ 10000000 := by
  have := (chk_ok h).1
  simp only [badC, not_or, Int.not_lt] at this
  omega
set_option maxRecDepth 20000 in
set_option maxHeartbeats 1000000 in
theorem connected_any (c : Cfg) (m : Int) (g cap : Nat) (A : Option Addr) (w : World) (hr : Rd w g 2 A c.ws.length (c.ws.flatMap winc)) (hl : c.ws.length ≤ maxLen) (hm1 : m ≤ 9223372036854775807) :
    Calls Try.prog 34 #[.agg (cfgc c A cap).toArray, .int .i64 m] w fun e w' => e = .returned (.bool (conC c m)) ∧ Below w.heap.size w w' := by
  have HR := Lib.hid hr
  have hb := bnew w (.cells (cfgc c A cap).toArray 35)
  have HB := Lib.hid hb
  have HP := Lib.hid (Blk.new w 35 (cfgc c A cap).toArray)
  clear hr hb
  by_cases h0 : m < 0
  · have e : conC c m = false := by simp [conC]; omega
    rw [e]
    go_enter Try.func34, Try.ntmps34
    go_wp2
    go_ret
    exact ⟨rfl, HB.out⟩
  · obtain ⟨k, hk⟩ : ∃ k, k = chkC c := ⟨_, rfl⟩
    have HK := Lib.hid hk
    by_cases h1 : k = 0
    · subst h1
      have hp := chk_per hk.symm
      have hl32 := (chk_ok hk.symm).2.1
      have e : conC c m = (winC c m).2.2 := by simp [conC, ← hk]; omega
      rw [e]
      have HW := Lib.hid (fun w' (hb' : Below w.heap.size w w') => window_any c m g cap A w' (HR.out.below hb') (by omega) hp.1 (by omega) hm1)
      clear hk e
      go_enter Try.func34, Try.ntmps34
      go_wp2_with (first
        | ((with_reducible refine at_dst 11 ?_); (refine wpList_wanted (by first | (simp [Region.wanted, yielded]; done) | (simp [Region.wanted, yielded]; omega)) fun _ hK => wp_load_cells 35 _ rfl w.heap.size 0 (cfgc c A cap) rfl _ Try.underlying35 rfl info35 (fun j u hu => by rw [Nat.zero_add, HP.out.cell, List.getElem?_toArray]; exact hu) (hK _ _ ?_)))
        | (go_at_call 33; (refine (check_any c g A cap _ (HR.out.below HB.out) hl).mono ?_; rintro e y1 ⟨he, hb1⟩; rw [← HK.out] at he; subst he; have HB2 := Lib.hid (HB.out.trans' hb1); have HP2 := Lib.hid (HP.out.below hb1); clear hb1))
        | ((with_reducible refine at_dst 16 ?_); (refine wpList_load_cells rfl 35 _ rfl w.heap.size 0 (cfgc c A cap) rfl _ Try.underlying35 rfl info35 (fun j u hu => ?_) ?_; (rw [Nat.zero_add, HP2.out.cell, List.getElem?_toArray]; exact hu)))
        | (go_at_call 53; (refine (HW.out _ HB2.out).mono ?_; rintro e y2 ⟨rfl, hb2⟩; have HB3 := Lib.hid (HB2.out.trans' hb2); clear hb2))
        | ((with_reducible refine at_dst 5 ?_); (refine wpList_var 62 (winc (winC c m).1) _ Try.underlying62 z62 info62 rfl (oneCell_winc _) (by simp [Act.put]) rfl ?_)))
      go_ret
      exact ⟨rfl, HB3.out.trans' (bnew _ _)⟩
    · have e : conC c m = false := by simp [conC, ← hk, h1]
      rw [e]
      clear hk e
      go_enter Try.func34, Try.ntmps34
      go_wp2_with (first
        | ((with_reducible refine at_dst 11 ?_); (refine wpList_wanted (by first | (simp [Region.wanted, yielded]; done) | (simp [Region.wanted, yielded]; omega)) fun _ hK => wp_load_cells 35 _ rfl w.heap.size 0 (cfgc c A cap) rfl _ Try.underlying35 rfl info35 (fun j u hu => by rw [Nat.zero_add, HP.out.cell, List.getElem?_toArray]; exact hu) (hK _ _ ?_)))
        | (go_at_call 33; (refine (check_any c g A cap _ (HR.out.below HB.out) hl).mono ?_; rintro e y1 ⟨he, hb1⟩; rw [← HK.out] at he; subst he; have HB2 := Lib.hid (HB.out.trans' hb1); have HP2 := Lib.hid (HP.out.below hb1); clear hb1))
        | ((with_reducible refine at_dst 16 ?_); (refine wpList_load_cells rfl 35 _ rfl w.heap.size 0 (cfgc c A cap) rfl _ Try.underlying35 rfl info35 (fun j u hu => ?_) ?_; (rw [Nat.zero_add, HP2.out.cell, List.getElem?_toArray]; exact hu)))
        | (go_at_call 53; (refine (HW.out _ HB2.out).mono ?_; rintro e y2 ⟨rfl, hb2⟩; have HB3 := Lib.hid (HB2.out.trans' hb2); clear hb2))
        | ((with_reducible refine at_dst 5 ?_); (refine wpList_var 62 (winc (winC c m).1) _ Try.underlying62 z62 info62 rfl (oneCell_winc _) (by simp [Act.put]) rfl ?_)))
      go_ret
      exact ⟨rfl, HB2.out⟩
end Go.Proofs.Ytnddahajfcmkiaa
