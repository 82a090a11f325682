/- The line: quiet. Conditions: a valid description, a minute from 0 to 10,000,000. -/
import Derived.Test.YtnddahajfcmkiaaLr
namespace Go.Proofs.Ytnddahajfcmkiaa
set_option linter.unusedSimpArgs false
set_option linter.unusedVariables false
set_option linter.unnecessarySimpa false
open Go.RowKit
def quietL (L : Ln) : Int :=
  if idleL L = false then L.now
  else if L.up = true then (if (winC L.cfg L.now).2.2 = true then (winC L.cfg L.now).2.1 + (winC L.cfg L.now).1.hi - 1 else L.now)
  else if (nextC L.cfg (L.now + 1)).2 = true then (nextC L.cfg (L.now + 1)).1 - 1 else 10000000
section
variable {w : World} {b gw g0 g1 c c0 c1 : Nat} {L : Ln} {A A0 A1 : Option Addr}
set_option maxHeartbeats 1000000 in
theorem quiet_busy (h : LnO w b L gw g0 g1 A A0 A1 c c0 c1) (hi : idleL L = false) :
    Calls Try.prog 50 #[.pointer (some ⟨b, 0, none⟩)] w fun e w' => e = .returned (.int .i64 L.now) ∧ Below w.heap.size w w' := by
  have HI := Lib.hid hi
  have HL := Lib.hid h
  clear h hi
  go_enter Try.func50, Try.ntmps50
  go_wp2_with (go_at_call 58; (refine (idle_any HL.out.at).mono ?_; rintro e y1 ⟨he, hb⟩; rw [HI.out] at he; subst he; have HB := Lib.hid hb; have hc4 := (HL.out.at.below hb).now; clear hb))
  go_ret
  exact ⟨rfl, HB.out⟩
set_option maxRecDepth 20000 in
set_option maxHeartbeats 2000000 in
theorem quiet_up (r d p now lo hi bs : Int) (ws : List Wn) (ok : Bool) (h : LnO w b L gw g0 g1 A A0 A1 c c0 c1) (hi' : idleL L = true) (hu : L.up = true) (hcfg : L.cfg = ⟨r, d, p, ws⟩) (hn : L.now = now)
    (hW : ∀ w', Below w.heap.size w w' → Calls Try.prog 53 #[.agg #[.int .i64 r, .int .i64 d, .int .i64 p, .slice A ws.length c], .int .i64 now] w' fun e w2 => e = .returned (.tuple #[.agg #[.int .i64 lo, .int .i64 hi], .int .i64 bs, .bool ok]) ∧ Below w'.heap.size w' w2)
    (hb0 : -10000000 ≤ bs + hi) (hb1 : bs + hi ≤ 20000000) :
    Calls Try.prog 50 #[.pointer (some ⟨b, 0, none⟩)] w fun e w' => e = .returned (.int .i64 (if ok = true then bs + hi - 1 else now)) ∧ Below w.heap.size w w' := by
  have HU := Lib.hid hu
  have hbk := h.blk
  rw [show lnc L A A0 A1 c c0 c1 = L87 r d p A ws.length c now L.up L.ses L.l.wait A0 L.l.fl.length c0 L.l.arr L.r.wait A1 L.r.fl.length c1 L.r.arr from by simp only [lnc, hcfg, hn]; rfl] at hbk
  have HBK := Lib.hid hbk
  have HW0 := Lib.hid hW
  have HI := Lib.hid hi'
  have HL := Lib.hid h
  have HBB := Lib.hid (And.intro hb0 hb1)
  clear h hi' hu hbk hcfg hn hW hb0 hb1
  go_enter Try.func50, Try.ntmps50
  go_wp2_with (go_at_call 58; (refine (idle_any HL.out.at).mono ?_; rintro e y1 ⟨he, hb⟩; rw [HI.out] at he; subst he; have HB := Lib.hid hb; have hc4 := (HL.out.at.below hb).up; rw [HU.out] at hc4; clear hb))
  have LN := Lib.hid (HBK.out.below HB.out)
  have HW := Lib.hid (fun w' (hb : Below y1.heap.size y1 w') => HW0.out w' (HB.out.trans' hb))
  clear hc4
  cases ok
  · refine wp_region_seqX (nt := 59) (by kernel_rfl) ⟨Rb, some 14, fun j => Nat.beq j 13, PC62 y1.heap.size ⟨lo, hi⟩ 13⟩ [0,1,2,3,4,5,6,7,8,9,10,11,12,13,14,15,16] [] (Rv y1.heap.size 62 F62) Rv.refl Rb.refl Rv.of_rb Rv.trans [(8, fun v _ => v = .tuple #[.agg #[.int .i64 lo, .int .i64 hi], .int .i64 bs, .bool false]), (13, fun v w' => ∃ q, v = .pointer (some ⟨q, 0, none⟩) ∧ y1.heap.size ≤ q ∧ Blk w' q 62 #[.int .i64 0, .int .i64 0]), (14, fun _ _ => True)] (by kernel_rfl) (by simp) rfl (by kernel_rfl) (by simp) ?_ ?_ ?_ ?_
    · rintro f w' w2 _ h2 ⟨q, e1, e2, h⟩
      exact ⟨q, e1, e2, h.below h2⟩
    · intro i hi
      obtain rfl : 14 = i := by simpa [Ext.at] using hi
      rfl
    · refine ⟨fun v w w' h0 h2 h => h, fun v w1 w2 h0 h2 h => ?_, fun _ _ _ _ _ h => h, trivial⟩
      rcases h2 with h2 | h2
      · exact absurd h2.1.1 (fun h => by cases h)
      · obtain ⟨q, e, hq, hb⟩ := h
        exact ⟨q, e, hq, hb.below h2⟩
    iterate 3 (refine' Sq.det (E := _) (b := _) (by rfl) (by rfl) (by rfl) (fun w' hR hf => ?_) ?_ ?_; rotate_left 2; (· (go_simp; first | done | with_reducible rfl)); (· (simp only [Act.put, List.setIfInBounds_toArray, List.set_cons_zero, List.set_cons_succ]; first | done | rfl)))
    (refine' Sq.det (E := _) (b := _) (by rfl) (by rfl) (by rfl) (fun w' hR hf => ?_) ?_ ?_; rotate_left 2; (· (refine exec_load_cells 35 _ b 0 [.int .i64 r, .int .i64 d, .int .i64 p, .slice A ws.length c] ?_ _ Try.underlying35 rfl info35 (fun j u hu => ?_); (· kernel_rfl); (rw [Nat.zero_add, (LN.out.below (rv_below hR)).cell, List.getElem?_toArray]; exact pre4 hu))); (· (simp only [Act.put, List.setIfInBounds_toArray, List.set_cons_zero, List.set_cons_succ]; first | done | rfl)))
    iterate 3 (refine' Sq.det (E := _) (b := _) (by rfl) (by rfl) (by rfl) (fun w' hR hf => ?_) ?_ ?_; rotate_left 2; (· (go_simp; first | done | with_reducible rfl)); (· (simp only [Act.put, List.setIfInBounds_toArray, List.set_cons_zero, List.set_cons_succ]; first | done | rfl)))
    (refine' Sq.det (E := _) (b := _) (by rfl) (by rfl) (by rfl) (fun w' hR hf => ?_) ?_ ?_; rotate_left 2; (· (have hc : w'.cell? ⟨b, 4, none⟩ = some (.int .i64 now) := (LN.out.below (rv_below hR)).cell 4; go_simp; first | done | with_reducible rfl)); (· (simp only [Act.put, List.setIfInBounds_toArray, List.set_cons_zero, List.set_cons_succ]; first | done | rfl)))
    (refine' Sq.anyX (f := _) (by rfl) (by rfl) (by rfl) (by rfl) (fun w' hR hf => ?_) (fun v => ?_) (fun v8 => ?_); (· (go_wp2_with (go_at_call 53; refine (HW.out w' (rv_below hR)).mono ?_; rintro e w1 ⟨he, hb1⟩; subst he); exact hb1)); rotate_left 1; (· (simp only [Act.put, List.setIfInBounds_toArray, List.set_cons_zero, List.set_cons_succ]; first | done | rfl)))
    (refine' Sq.det (E := _) (b := _) (by rfl) (by rfl) (by rfl) (fun w' hR hf => ?_) ?_ ?_; rotate_left 2; (· (obtain rfl : v8 = .tuple #[.agg #[.int .i64 lo, .int .i64 hi], .int .i64 bs, .bool false] := hf 8 (by decide) _ rfl; go_simp; first | done | with_reducible rfl)); (· (simp only [Act.put, List.setIfInBounds_toArray, List.set_cons_zero, List.set_cons_succ]; first | done | rfl)))
    iterate 3 (refine' Sq.det (E := _) (b := _) (by rfl) (by rfl) (by rfl) (fun w' hR hf => ?_) ?_ ?_; rotate_left 2; (· (go_simp; first | done | with_reducible rfl)); (· (simp only [Act.put, List.setIfInBounds_toArray, List.set_cons_zero, List.set_cons_succ]; first | done | rfl)))
    (refine' Sq.anyX (f := _) (by rfl) (by rfl) (by rfl) (by rfl) (fun w' hR hf => ?_) (fun v => ?_) (fun v13 => ?_); (· (refine wp_alloc_blk 62 rfl z62 [.int .i64 0, .int .i64 0] rfl z62z ?_; intro w1 hk1 hk2; exact ⟨rfl, hk2, _, rfl, (rv_below hR).size, hk1⟩)); rotate_left 1; (· (simp only [Act.put, List.setIfInBounds_toArray, List.set_cons_zero, List.set_cons_succ]; first | done | rfl)))
    (refine' Sq.store (by rfl) (by rfl) (by rfl) (by rfl) (fun w' hR hf => ?_) ?_; (· (obtain ⟨q, hq, hqB, hbq⟩ : ∃ q, v13 = .pointer (some ⟨q, 0, none⟩) ∧ y1.heap.size ≤ q ∧ Blk w' q 62 #[.int .i64 0, .int .i64 0] := hf 13 (by decide) _ rfl; subst hq; refine wp_store_blk 62 _ _ rfl q 0 62 [.int .i64 0, .int .i64 0] (winc ⟨lo, hi⟩) hbq (by kernel_rfl) (by kernel_rfl) size62 (by simp [winc]) (by simp [winc, Value.oneCell']) ?_; intro w1 hn1 hg1 _; refine ⟨rfl, Rv.store hbq ⟨_, _, rfl⟩ hqB hg1, ?_⟩; exact ⟨q, rfl, hqB, by simpa [winc] using hn1⟩)))
    iterate 2 (refine' Sq.det (E := _) (b := _) (by rfl) (by rfl) (by rfl) (fun w' hR hf => ?_) ?_ ?_; rotate_left 2; (· (go_simp; first | done | with_reducible rfl)); (· (simp only [Act.put, List.setIfInBounds_toArray, List.set_cons_zero, List.set_cons_succ]; first | done | rfl)))
    refine Sq.doneX fun w4 hR hp hpc => ?_
    have HB4 := Lib.hid (rv_below hR)
    obtain ⟨q, e1, _, hbq⟩ := hpc 14 (by decide) rfl
    obtain rfl : v13 = .pointer (some ⟨q, 0, none⟩) := e1
    have HQ := Lib.hid hbq
    clear hp hpc hR hbq
    have hc5 : w4.cell? ⟨b, 4, none⟩ = some (.int .i64 now) := (LN.out.below HB4.out).cell 4
    go_wp2
    go_ret
    exact ⟨rfl, HB.out.trans' HB4.out⟩
  · refine wp_region_seqX (nt := 59) (by kernel_rfl) ⟨Rb, some 14, fun j => Nat.beq j 13, PC62 y1.heap.size ⟨lo, hi⟩ 13⟩ [0,1,2,3,4,5,6,7,8,9,10,11,12,13,14,15,16] [] (Rv y1.heap.size 62 F62) Rv.refl Rb.refl Rv.of_rb Rv.trans [(8, fun v _ => v = .tuple #[.agg #[.int .i64 lo, .int .i64 hi], .int .i64 bs, .bool true]), (13, fun v w' => ∃ q, v = .pointer (some ⟨q, 0, none⟩) ∧ y1.heap.size ≤ q ∧ Blk w' q 62 #[.int .i64 0, .int .i64 0]), (14, fun _ _ => True)] (by kernel_rfl) (by simp) rfl (by kernel_rfl) (by simp) ?_ ?_ ?_ ?_
    · rintro f w' w2 _ h2 ⟨q, e1, e2, h⟩
      exact ⟨q, e1, e2, h.below h2⟩
    · intro i hi
      obtain rfl : 14 = i := by simpa [Ext.at] using hi
      rfl
    · refine ⟨fun v w w' h0 h2 h => h, fun v w1 w2 h0 h2 h => ?_, fun _ _ _ _ _ h => h, trivial⟩
      rcases h2 with h2 | h2
      · exact absurd h2.1.1 (fun h => by cases h)
      · obtain ⟨q, e, hq, hb⟩ := h
        exact ⟨q, e, hq, hb.below h2⟩
    iterate 3 (refine' Sq.det (E := _) (b := _) (by rfl) (by rfl) (by rfl) (fun w' hR hf => ?_) ?_ ?_; rotate_left 2; (· (go_simp; first | done | with_reducible rfl)); (· (simp only [Act.put, List.setIfInBounds_toArray, List.set_cons_zero, List.set_cons_succ]; first | done | rfl)))
    (refine' Sq.det (E := _) (b := _) (by rfl) (by rfl) (by rfl) (fun w' hR hf => ?_) ?_ ?_; rotate_left 2; (· (refine exec_load_cells 35 _ b 0 [.int .i64 r, .int .i64 d, .int .i64 p, .slice A ws.length c] ?_ _ Try.underlying35 rfl info35 (fun j u hu => ?_); (· kernel_rfl); (rw [Nat.zero_add, (LN.out.below (rv_below hR)).cell, List.getElem?_toArray]; exact pre4 hu))); (· (simp only [Act.put, List.setIfInBounds_toArray, List.set_cons_zero, List.set_cons_succ]; first | done | rfl)))
    iterate 3 (refine' Sq.det (E := _) (b := _) (by rfl) (by rfl) (by rfl) (fun w' hR hf => ?_) ?_ ?_; rotate_left 2; (· (go_simp; first | done | with_reducible rfl)); (· (simp only [Act.put, List.setIfInBounds_toArray, List.set_cons_zero, List.set_cons_succ]; first | done | rfl)))
    (refine' Sq.det (E := _) (b := _) (by rfl) (by rfl) (by rfl) (fun w' hR hf => ?_) ?_ ?_; rotate_left 2; (· (have hc : w'.cell? ⟨b, 4, none⟩ = some (.int .i64 now) := (LN.out.below (rv_below hR)).cell 4; go_simp; first | done | with_reducible rfl)); (· (simp only [Act.put, List.setIfInBounds_toArray, List.set_cons_zero, List.set_cons_succ]; first | done | rfl)))
    (refine' Sq.anyX (f := _) (by rfl) (by rfl) (by rfl) (by rfl) (fun w' hR hf => ?_) (fun v => ?_) (fun v8 => ?_); (· (go_wp2_with (go_at_call 53; refine (HW.out w' (rv_below hR)).mono ?_; rintro e w1 ⟨he, hb1⟩; subst he); exact hb1)); rotate_left 1; (· (simp only [Act.put, List.setIfInBounds_toArray, List.set_cons_zero, List.set_cons_succ]; first | done | rfl)))
    (refine' Sq.det (E := _) (b := _) (by rfl) (by rfl) (by rfl) (fun w' hR hf => ?_) ?_ ?_; rotate_left 2; (· (obtain rfl : v8 = .tuple #[.agg #[.int .i64 lo, .int .i64 hi], .int .i64 bs, .bool true] := hf 8 (by decide) _ rfl; go_simp; first | done | with_reducible rfl)); (· (simp only [Act.put, List.setIfInBounds_toArray, List.set_cons_zero, List.set_cons_succ]; first | done | rfl)))
    iterate 3 (refine' Sq.det (E := _) (b := _) (by rfl) (by rfl) (by rfl) (fun w' hR hf => ?_) ?_ ?_; rotate_left 2; (· (go_simp; first | done | with_reducible rfl)); (· (simp only [Act.put, List.setIfInBounds_toArray, List.set_cons_zero, List.set_cons_succ]; first | done | rfl)))
    (refine' Sq.anyX (f := _) (by rfl) (by rfl) (by rfl) (by rfl) (fun w' hR hf => ?_) (fun v => ?_) (fun v13 => ?_); (· (refine wp_alloc_blk 62 rfl z62 [.int .i64 0, .int .i64 0] rfl z62z ?_; intro w1 hk1 hk2; exact ⟨rfl, hk2, _, rfl, (rv_below hR).size, hk1⟩)); rotate_left 1; (· (simp only [Act.put, List.setIfInBounds_toArray, List.set_cons_zero, List.set_cons_succ]; first | done | rfl)))
    (refine' Sq.store (by rfl) (by rfl) (by rfl) (by rfl) (fun w' hR hf => ?_) ?_; (· (obtain ⟨q, hq, hqB, hbq⟩ : ∃ q, v13 = .pointer (some ⟨q, 0, none⟩) ∧ y1.heap.size ≤ q ∧ Blk w' q 62 #[.int .i64 0, .int .i64 0] := hf 13 (by decide) _ rfl; subst hq; refine wp_store_blk 62 _ _ rfl q 0 62 [.int .i64 0, .int .i64 0] (winc ⟨lo, hi⟩) hbq (by kernel_rfl) (by kernel_rfl) size62 (by simp [winc]) (by simp [winc, Value.oneCell']) ?_; intro w1 hn1 hg1 _; refine ⟨rfl, Rv.store hbq ⟨_, _, rfl⟩ hqB hg1, ?_⟩; exact ⟨q, rfl, hqB, by simpa [winc] using hn1⟩)))
    iterate 2 (refine' Sq.det (E := _) (b := _) (by rfl) (by rfl) (by rfl) (fun w' hR hf => ?_) ?_ ?_; rotate_left 2; (· (go_simp; first | done | with_reducible rfl)); (· (simp only [Act.put, List.setIfInBounds_toArray, List.set_cons_zero, List.set_cons_succ]; first | done | rfl)))
    refine Sq.doneX fun w4 hR hp hpc => ?_
    have HB4 := Lib.hid (rv_below hR)
    obtain ⟨q, e1, _, hbq⟩ := hpc 14 (by decide) rfl
    obtain rfl : v13 = .pointer (some ⟨q, 0, none⟩) := e1
    have HQ := Lib.hid hbq
    clear hp hpc hR hbq
    have hc5 : w4.cell? ⟨q, 1, none⟩ = some (.int .i64 hi) := HQ.out.cell 1
    obtain ⟨hb0, hb1⟩ := HBB.out
    go_wp2
    go_ret
    exact ⟨rfl, HB.out.trans' HB4.out⟩
set_option maxRecDepth 20000 in
set_option maxHeartbeats 2000000 in
theorem quiet_down (r d p now v0 : Int) (ws : List Wn) (ok : Bool) (h : LnO w b L gw g0 g1 A A0 A1 c c0 c1) (hi' : idleL L = true) (hu : L.up = false) (hcfg : L.cfg = ⟨r, d, p, ws⟩) (hn : L.now = now) (hn0 : 0 ≤ now) (hn1 : now ≤ 10000000)
    (hW : ∀ w', Below w.heap.size w w' → Calls Try.prog 54 #[.agg #[.int .i64 r, .int .i64 d, .int .i64 p, .slice A ws.length c], .int .i64 (now + 1)] w' fun e w2 => e = .returned (.tuple #[.int .i64 v0, .bool ok]) ∧ Below w'.heap.size w' w2)
    (hb0 : -10000000 ≤ v0) (hb1 : v0 ≤ 1099511627776) :
    Calls Try.prog 50 #[.pointer (some ⟨b, 0, none⟩)] w fun e w' => e = .returned (.int .i64 (if ok = true then v0 - 1 else 10000000)) ∧ Below w.heap.size w w' := by
  have HU := Lib.hid hu
  have hbk := h.blk
  rw [show lnc L A A0 A1 c c0 c1 = L87 r d p A ws.length c now L.up L.ses L.l.wait A0 L.l.fl.length c0 L.l.arr L.r.wait A1 L.r.fl.length c1 L.r.arr from by simp only [lnc, hcfg, hn]; rfl] at hbk
  have HBK := Lib.hid hbk
  have HW0 := Lib.hid hW
  have HI := Lib.hid hi'
  have HL := Lib.hid h
  have HN1 : Hid (IntKind.i64.wrap (now + 1) = now + 1) := Lib.hid (IntWalk.i64_in _ (by omega))
  have HBB := Lib.hid (And.intro hb0 hb1)
  clear h hi' hu hbk hcfg hn hW hb0 hb1 hn0 hn1
  go_enter Try.func50, Try.ntmps50
  go_wp2_with (go_at_call 58; (refine (idle_any HL.out.at).mono ?_; rintro e y1 ⟨he, hb⟩; rw [HI.out] at he; subst he; have HB := Lib.hid hb; have hc4 := (HL.out.at.below hb).up; rw [HU.out] at hc4; clear hb))
  have LN := Lib.hid (HBK.out.below HB.out)
  have HW := Lib.hid (fun w' (hb : Below y1.heap.size y1 w') => HW0.out w' (HB.out.trans' hb))
  clear hc4
  cases ok
  · refine wp_region_seq (nt := 59) (by kernel_rfl) [0,1,2,3,4,5,6,7,8,9,10,11,12,13,14] [] Rb Rb.refl Rb.trans [(9, fun v _ => v = .tuple #[.int .i64 v0, .bool false])] (by kernel_rfl) (by simp) rfl (by kernel_rfl) (by simp) ⟨fun _ _ _ _ _ h => h, trivial⟩ ?_
    iterate 3 (refine' Sq.det (E := _) (b := _) (by rfl) (by rfl) (by rfl) (fun w' hR hf => ?_) ?_ ?_; rotate_left 2; (· (go_simp; first | done | with_reducible rfl)); (· (simp only [Act.put, List.setIfInBounds_toArray, List.set_cons_zero, List.set_cons_succ]; first | done | rfl)))
    (refine' Sq.det (E := _) (b := _) (by rfl) (by rfl) (by rfl) (fun w' hR hf => ?_) ?_ ?_; rotate_left 2; (· (refine exec_load_cells 35 _ b 0 [.int .i64 r, .int .i64 d, .int .i64 p, .slice A ws.length c] ?_ _ Try.underlying35 rfl info35 (fun j u hu => ?_); (· kernel_rfl); (rw [Nat.zero_add, (LN.out.below (below_undrew hR)).cell, List.getElem?_toArray]; exact pre4 hu))); (· (simp only [Act.put, List.setIfInBounds_toArray, List.set_cons_zero, List.set_cons_succ]; first | done | rfl)))
    iterate 3 (refine' Sq.det (E := _) (b := _) (by rfl) (by rfl) (by rfl) (fun w' hR hf => ?_) ?_ ?_; rotate_left 2; (· (go_simp; first | done | with_reducible rfl)); (· (simp only [Act.put, List.setIfInBounds_toArray, List.set_cons_zero, List.set_cons_succ]; first | done | rfl)))
    (refine' Sq.det (E := _) (b := _) (by rfl) (by rfl) (by rfl) (fun w' hR hf => ?_) ?_ ?_; rotate_left 2; (· (have hc : w'.cell? ⟨b, 4, none⟩ = some (.int .i64 now) := (LN.out.below (below_undrew hR)).cell 4; go_simp; first | done | with_reducible rfl)); (· (simp only [Act.put, List.setIfInBounds_toArray, List.set_cons_zero, List.set_cons_succ]; first | done | rfl)))
    (refine' Sq.det (E := _) (b := _) (by rfl) (by rfl) (by rfl) (fun w' hR hf => ?_) ?_ ?_; rotate_left 2; (· (have hc := HN1.out; go_simp; first | done | with_reducible rfl)); (· (simp only [Act.put, List.setIfInBounds_toArray, List.set_cons_zero, List.set_cons_succ]; first | done | rfl)))
    (refine' Sq.any (f := _) (by rfl) (by rfl) (by rfl) (fun w' hR hf => ?_) (fun v => ?_) (fun v9 => ?_); (· (go_wp2_with (go_at_call 54; refine (HW.out w' (below_undrew hR)).mono ?_; rintro e w1 ⟨he, hb1⟩; subst he); exact hb1)); rotate_left 1; (· (simp only [Act.put, List.setIfInBounds_toArray, List.set_cons_zero, List.set_cons_succ]; first | done | rfl)))
    (refine' Sq.det (E := _) (b := _) (by rfl) (by rfl) (by rfl) (fun w' hR hf => ?_) ?_ ?_; rotate_left 2; (· (obtain rfl : v9 = .tuple #[.int .i64 v0, .bool false] := hf 9 (by decide) _ rfl; go_simp; first | done | with_reducible rfl)); (· (simp only [Act.put, List.setIfInBounds_toArray, List.set_cons_zero, List.set_cons_succ]; first | done | rfl)))
    iterate 4 (refine' Sq.det (E := _) (b := _) (by rfl) (by rfl) (by rfl) (fun w' hR hf => ?_) ?_ ?_; rotate_left 2; (· (go_simp; first | done | with_reducible rfl)); (· (simp only [Act.put, List.setIfInBounds_toArray, List.set_cons_zero, List.set_cons_succ]; first | done | rfl)))
    refine Sq.done fun w4 hR _ => ?_
    have HB4 := Lib.hid (below_undrew hR)
    clear hR
    go_wp2
    go_ret
    exact ⟨rfl, HB.out.trans' HB4.out⟩
  · refine wp_region_seq (nt := 59) (by kernel_rfl) [0,1,2,3,4,5,6,7,8,9,10,11,12,13,14] [] Rb Rb.refl Rb.trans [(9, fun v _ => v = .tuple #[.int .i64 v0, .bool true])] (by kernel_rfl) (by simp) rfl (by kernel_rfl) (by simp) ⟨fun _ _ _ _ _ h => h, trivial⟩ ?_
    iterate 3 (refine' Sq.det (E := _) (b := _) (by rfl) (by rfl) (by rfl) (fun w' hR hf => ?_) ?_ ?_; rotate_left 2; (· (go_simp; first | done | with_reducible rfl)); (· (simp only [Act.put, List.setIfInBounds_toArray, List.set_cons_zero, List.set_cons_succ]; first | done | rfl)))
    (refine' Sq.det (E := _) (b := _) (by rfl) (by rfl) (by rfl) (fun w' hR hf => ?_) ?_ ?_; rotate_left 2; (· (refine exec_load_cells 35 _ b 0 [.int .i64 r, .int .i64 d, .int .i64 p, .slice A ws.length c] ?_ _ Try.underlying35 rfl info35 (fun j u hu => ?_); (· kernel_rfl); (rw [Nat.zero_add, (LN.out.below (below_undrew hR)).cell, List.getElem?_toArray]; exact pre4 hu))); (· (simp only [Act.put, List.setIfInBounds_toArray, List.set_cons_zero, List.set_cons_succ]; first | done | rfl)))
    iterate 3 (refine' Sq.det (E := _) (b := _) (by rfl) (by rfl) (by rfl) (fun w' hR hf => ?_) ?_ ?_; rotate_left 2; (· (go_simp; first | done | with_reducible rfl)); (· (simp only [Act.put, List.setIfInBounds_toArray, List.set_cons_zero, List.set_cons_succ]; first | done | rfl)))
    (refine' Sq.det (E := _) (b := _) (by rfl) (by rfl) (by rfl) (fun w' hR hf => ?_) ?_ ?_; rotate_left 2; (· (have hc : w'.cell? ⟨b, 4, none⟩ = some (.int .i64 now) := (LN.out.below (below_undrew hR)).cell 4; go_simp; first | done | with_reducible rfl)); (· (simp only [Act.put, List.setIfInBounds_toArray, List.set_cons_zero, List.set_cons_succ]; first | done | rfl)))
    (refine' Sq.det (E := _) (b := _) (by rfl) (by rfl) (by rfl) (fun w' hR hf => ?_) ?_ ?_; rotate_left 2; (· (have hc := HN1.out; go_simp; first | done | with_reducible rfl)); (· (simp only [Act.put, List.setIfInBounds_toArray, List.set_cons_zero, List.set_cons_succ]; first | done | rfl)))
    (refine' Sq.any (f := _) (by rfl) (by rfl) (by rfl) (fun w' hR hf => ?_) (fun v => ?_) (fun v9 => ?_); (· (go_wp2_with (go_at_call 54; refine (HW.out w' (below_undrew hR)).mono ?_; rintro e w1 ⟨he, hb1⟩; subst he); exact hb1)); rotate_left 1; (· (simp only [Act.put, List.setIfInBounds_toArray, List.set_cons_zero, List.set_cons_succ]; first | done | rfl)))
    (refine' Sq.det (E := _) (b := _) (by rfl) (by rfl) (by rfl) (fun w' hR hf => ?_) ?_ ?_; rotate_left 2; (· (obtain rfl : v9 = .tuple #[.int .i64 v0, .bool true] := hf 9 (by decide) _ rfl; go_simp; first | done | with_reducible rfl)); (· (simp only [Act.put, List.setIfInBounds_toArray, List.set_cons_zero, List.set_cons_succ]; first | done | rfl)))
    iterate 4 (refine' Sq.det (E := _) (b := _) (by rfl) (by rfl) (by rfl) (fun w' hR hf => ?_) ?_ ?_; rotate_left 2; (· (go_simp; first | done | with_reducible rfl)); (· (simp only [Act.put, List.setIfInBounds_toArray, List.set_cons_zero, List.set_cons_succ]; first | done | rfl)))
    refine Sq.done fun w4 hR _ => ?_
    have HB4 := Lib.hid (below_undrew hR)
    clear hR
    obtain ⟨hb0, hb1⟩ := HBB.out
    go_wp2
    go_ret
    exact ⟨rfl, HB.out.trans' HB4.out⟩
theorem nextC_bd {C : Cfg} {m : Int} (hok : chkC C = 0) (hm0 : 0 ≤ m) (hm1 : m ≤ 10000001) : -10000000 ≤ (nextC C m).1 ∧ (nextC C m).1 ≤ 1099511627776 := by
  have hb := split_bd (p := C.period) (m := m) (chk_per hok).1 hm0
  have hp := chk_per hok
  have key : ∀ (ws : List Wn), (∀ x ∈ ws, 0 ≤ x.lo ∧ x.lo < x.hi ∧ x.hi ≤ 10000000) → ∀ v, nextW (splitB C.period m) (splitR C.period m) ws = some v → 0 ≤ v ∧ v ≤ 100000000 := by
    intro ws
    induction ws with
    | nil => intro _ v hv; cases hv
    | cons x ws ih =>
      intro hx v hv
      unfold nextW at hv
      split at hv
      · injection hv with hv
        have := hx x (by simp)
        omega
      · exact ih (fun y hy => hx y (by simp [hy])) v hv
  unfold nextC
  split
  · rename_i v hv
    have := key C.ws (chk_all hok) v hv
    simp only
    omega
  · split
    · simp
    · rename_i hz
      rw [not_or] at hz
      have h0 : 0 < C.ws.length := by omega
      have hx := chk_all hok C.ws[0] (List.getElem_mem h0)
      have e : C.ws.getD 0 default = C.ws[0] := by simp [h0]
      simp only [e]
      omega
theorem winC_bd {C : Cfg} {m : Int} (hok : chkC C = 0) (hm0 : 0 ≤ m) (hm1 : m ≤ 10000000) : -10000000 ≤ (winC C m).2.1 + (winC C m).1.hi ∧ (winC C m).2.1 + (winC C m).1.hi ≤ 20000000 := by
  have hb := split_bd (p := C.period) (m := m) (chk_per hok).1 hm0
  unfold winC
  split
  · simp
  · rename_i x hx
    have hm := List.mem_of_find?_eq_some hx
    have := chk_all hok x hm
    simp only
    omega
theorem quiet_any (h : LnO w b L gw g0 g1 A A0 A1 c c0 c1) (hok : chkC L.cfg = 0) (hn0 : 0 ≤ L.now) (hn1 : L.now ≤ 10000000) :
    Calls Try.prog 50 #[.pointer (some ⟨b, 0, none⟩)] w fun e w' => e = .returned (.int .i64 (quietL L)) ∧ Below w.heap.size w w' := by
  cases hi : idleL L
  · have e : quietL L = L.now := by simp [quietL, hi]
    rw [e]
    exact quiet_busy h hi
  · have hl := (chk_ok hok).2.1
    cases hu : L.up
    · have hb := nextC_bd (m := L.now + 1) hok (by omega) (by omega)
      have e : quietL L = if (nextC L.cfg (L.now + 1)).2 = true then (nextC L.cfg (L.now + 1)).1 - 1 else 10000000 := by simp [quietL, hi, hu]
      rw [e]
      exact quiet_down _ _ _ _ _ _ _ h hi hu rfl rfl hn0 hn1 (fun w' hb => next_any L.cfg (L.now + 1) gw c A w' (h.rw_.below hb) hok (by omega) (by omega)) hb.1 hb.2
    · have hb := winC_bd (m := L.now) hok hn0 hn1
      have e : quietL L = if (winC L.cfg L.now).2.2 = true then (winC L.cfg L.now).2.1 + (winC L.cfg L.now).1.hi - 1 else L.now := by simp [quietL, hi, hu]
      rw [e]
      exact quiet_up _ _ _ _ (winC L.cfg L.now).1.lo _ _ _ _ h hi hu rfl rfl (fun w' hb => window_any L.cfg L.now gw c A w' (h.rw_.below hb) (by omega) (chk_per hok).1 hn0 (by omega)) hb.1 hb.2
end
end Go.Proofs.Ytnddahajfcmkiaa
