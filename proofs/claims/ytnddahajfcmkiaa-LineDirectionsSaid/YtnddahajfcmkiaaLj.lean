/- The reference's Check: the same answer. Conditions: none. -/
import Derived.Test.YtnddahajfcmkiaaLi
namespace Go.Proofs.Ytnddahajfcmkiaa
set_option linter.unusedSimpArgs false
set_option linter.unusedVariables false
set_option linter.unnecessarySimpa false
open Go.RowKit

theorem info88 : (Try.prog.info? 88).map (fun i => (i.zero, i.size)) = some (some z62, 2) := by kernel_rfl
theorem size88 : (Try.prog.info? 88).map (·.size) = some 2 := by kernel_rfl
theorem info24 : (Try.prog.info? 24).map (·.size) = some 4 := by kernel_rfl
theorem refcheck_bad (c : Cfg) (A : Option Addr) (cap : Nat) (w : World) (h : badC c) :
    Calls Try.prog 32 #[.agg (cfgc c A cap).toArray] w fun e w' => e = .returned (.int .i64 2) ∧ Below w.heap.size w w' := by
  obtain ⟨r, d, p, ws⟩ := c
  simp only [badC, cfgc] at h ⊢
  have HB := Lib.hid (bnew w (.cells #[.int .i64 r, .int .i64 d, .int .i64 p, .slice A ws.length cap] 24))
  by_cases h1 : r < 1
  · clear h
    go_enter Try.func32, Try.ntmps32
    go_wp2
    go_ret
    exact ⟨rfl, HB.out⟩
  by_cases h2 : 1048576 < r
  · clear h
    go_enter Try.func32, Try.ntmps32
    go_wp2
    go_ret
    exact ⟨rfl, HB.out⟩
  by_cases h3 : d < 0
  · clear h
    go_enter Try.func32, Try.ntmps32
    go_wp2
    go_ret
    exact ⟨rfl, HB.out⟩
  by_cases h4 : 1440 < d
  · clear h
    go_enter Try.func32, Try.ntmps32
    go_wp2
    go_ret
    exact ⟨rfl, HB.out⟩
  by_cases h5 : p < 0
  · clear h
    go_enter Try.func32, Try.ntmps32
    go_wp2
    go_ret
    exact ⟨rfl, HB.out⟩
  have h6 : 10000000 < p := by omega
  clear h
  go_enter Try.func32, Try.ntmps32
  go_wp2
  go_ret
  exact ⟨rfl, HB.out⟩
theorem refcheck_long (c : Cfg) (A : Option Addr) (cap : Nat) (w : World) (h : ¬ badC c) (hl : 32 < c.ws.length) (hm : c.ws.length ≤ maxLen) :
    Calls Try.prog 32 #[.agg (cfgc c A cap).toArray] w fun e w' => e = .returned (.int .i64 9) ∧ Below w.heap.size w w' := by
  obtain ⟨r, d, p, ws⟩ := c
  simp only [badC, cfgc, not_or, Int.not_lt] at h hl hm ⊢
  obtain ⟨h1, h2, h3, h4, h5, h6⟩ := h
  have HB := Lib.hid (bnew w (.cells #[.int .i64 r, .int .i64 d, .int .i64 p, .slice A ws.length cap] 24))
  go_enter Try.func32, Try.ntmps32
  go_wp2
  go_ret
  exact ⟨rfl, HB.out⟩
def prevC (ws : List Wn) (k : Nat) : Int := if k = 0 then 0 else (ws.getD (k - 1) default).hi
set_option maxRecDepth 20000 in
set_option maxHeartbeats 4000000 in
theorem refcheck_walk (r d p most res : Int) (ws : List Wn) (g : Nat) (A : Option Addr) (cap : Nat) (w : World) (hr : Rd w g 2 A ws.length (ws.flatMap winc)) (h1 : 1 ≤ r) (h2 : r ≤ 1048576) (h3 : 0 ≤ d) (h4 : d ≤ 1440) (h5 : 0 ≤ p) (h6 : p ≤ 10000000) (hl : ws.length ≤ 32) (hmo : most = mostC p) (hres : chkW most 0 ws = res) :
    Calls Try.prog 32 #[.agg #[.int .i64 r, .int .i64 d, .int .i64 p, .slice A ws.length cap]] w fun e w' => e = .returned (.int .i64 res) ∧ Below w.heap.size w w' := by
  have HR := Lib.hid hr
  have HRES := Lib.hid hres
  by_cases hp : p = 0
  · subst hp
    have hb := bnew w (.cells #[.int .i64 r, .int .i64 d, .int .i64 0, .slice A ws.length cap] 24)
    have HB := Lib.hid hb
    have HP := Lib.hid (Blk.new w 24 #[.int .i64 r, .int .i64 d, .int .i64 0, .slice A ws.length cap])
    clear hr hb hres
    obtain rfl : most = 10000000 := hmo
    try clear hmo
    go_enter Try.func32, Try.ntmps32
    go_wp2
    clear h1 h2 h3 h4 h5 h6
    go_loopw [4] (fun kv wr => ∃ (k : Nat), k ≤ ws.length ∧ kv = .int .i64 k ∧ Hid (chkW (10000000) (prevC ws k) (ws.drop k) = res) ∧ Hid (Below (w.heap.size + 1) (w.alloc (.cells #[.int .i64 r, .int .i64 d, .int .i64 (0), .slice A ws.length cap] 24)) wr)) (fun kv _ => ws.length - (intOf kv).toNat)
    case atStart => exact ⟨0, by omega, rfl, HRES, Lib.hid (Below.refl _ _)⟩
    case round =>
      obtain ⟨k, hk, rfl, HC, HBN⟩ := hrel
      have hsz : (w.alloc (.cells #[.int .i64 r, .int .i64 d, .int .i64 (0), .slice A ws.length cap] 24)).heap.size = w.heap.size + 1 := by simp
      have HPR : Hid (Blk wr w.heap.size 24 #[.int .i64 r, .int .i64 d, .int .i64 (0), .slice A ws.length cap]) := Lib.hid ((HBN.out.block w.heap.size (by omega)).trans HP.out)
      have HBR := Lib.hid (HB.out.trans (HBN.out.mono (Nat.le_succ _)))
      have hc3 := HPR.out.cell 3
      have HSZ := Lib.hid (show w.heap.size + 1 ≤ wr.heap.size by have := HBN.out.size; omega)
      clear hsz
      by_cases hlt : k < ws.length
      · obtain ⟨hg, off, rfl, hc⟩ := (HR.out.below HBR.out).elem winc_len hlt rfl
        have HC0 := Lib.hid hc
        have HG := Lib.hid hg
        have hd := chkW_drop (most := 10000000) (last := prevC ws k) hlt
        rw [HC.out] at hd
        obtain ⟨lo, hlo⟩ : ∃ lo, lo = ws[k].lo := ⟨_, rfl⟩
        obtain ⟨hi, hhi⟩ : ∃ hi, hi = ws[k].hi := ⟨_, rfl⟩
        have hwc : winc ws[k] = [.int .i64 lo, .int .i64 hi] := by rw [hlo, hhi]; rfl
        have hbw : badW (10000000) ws[k] ↔ (lo < 0 ∨ hi ≤ lo ∨ 10000000 < hi) := by rw [hlo, hhi]; rfl
        have hnx : prevC ws (k + 1) = hi := by simp [prevC, hhi, hlt]
        rw [← hlo, ← hhi] at hd
        have HWC := Lib.hid hwc
        have HNX := Lib.hid hnx
        clear hc hg hwc hlo hhi hnx
        by_cases hB : lo < 0 ∨ hi ≤ lo ∨ 10000000 < hi
        · rw [if_pos (hbw.2 hB)] at hd
          have HD := Lib.hid hd
          clear hd hbw
          rcases (by omega : lo < 0 ∨ (0 ≤ lo ∧ hi ≤ lo) ∨ (0 ≤ lo ∧ lo < hi ∧ 10000000 < hi)) with h1 | h1 | h1
          all_goals
            clear hB
            go_wp2_with (first
              | ((with_reducible refine at_dst 53 ?_); refine wpList_load_cells rfl 88 _ rfl g (off + k * 2) (winc ws[k]) rfl _ Try.underlying88 rfl size88 (fun j u hu => HC0.out j u hu) ?_; rw [HWC.out]))
            go_ret
            exact ⟨by rw [HD.out]; rfl, HBR.out.alloc HBR.out.size _⟩
        · rw [if_neg (fun h => hB (hbw.1 h))] at hd
          have h1 : 0 ≤ lo := by omega
          have h2 : lo < hi := by omega
          have h3 : hi ≤ 10000000 := by omega
          clear hB hbw
          have HN2 := Lib.hid (HBN.out.alloc HSZ.out (.cells #[.int .i64 lo, .int .i64 hi] 88))
          have HPR2 := Lib.hid (HPR.out.alloc (.cells #[.int .i64 lo, .int .i64 hi] 88))
          have HV := Lib.hid (Blk.new wr 88 #[.int .i64 lo, .int .i64 hi])
          rcases Nat.eq_zero_or_pos k with hk0 | hk0
          · subst hk0
            rw [if_neg (by simp only [prevC, if_true]; omega)] at hd
            have HD := Lib.hid hd
            clear hd
            go_wp2_with (first
              | ((with_reducible refine at_dst 53 ?_); refine wpList_load_cells rfl 88 _ rfl g (off + 0 * 2) (winc ws[0]) rfl _ Try.underlying88 rfl size88 (fun j u hu => HC0.out j u hu) ?_; rw [HWC.out]))
            clear hc3
            refine wp_region_seq (nt := 84) (by kernel_rfl) [0,1,2,3,4,5,6,7,8,9,10,11,12,13] [] Rb Rb.refl Rb.trans [] (by kernel_rfl) (by simp) rfl (by kernel_rfl) (by simp) trivial ?_
            (refine' Sq.det (E := _) (b := _) (by rfl) (by rfl) (by rfl) (fun w' hR hf => ?_) ?_ ?_; rotate_left 2; (· (go_simp; first | done | with_reducible rfl)); (· (simp only [Act.put, List.setIfInBounds_toArray, List.set_cons_zero, List.set_cons_succ]; first | done | rfl)))
            (refine' Sq.det (E := _) (b := _) (by rfl) (by rfl) (by rfl) (fun w' hR hf => ?_) ?_ ?_; rotate_left 2; (· (go_simp; first | done | with_reducible rfl)); (· (simp only [Act.put, List.setIfInBounds_toArray, List.set_cons_zero, List.set_cons_succ]; first | done | rfl)))
            (refine' Sq.det (E := _) (b := _) (by rfl) (by rfl) (by rfl) (fun w' hR hf => ?_) ?_ ?_; rotate_left 2; (· (go_simp; first | done | with_reducible rfl)); (· (simp only [Act.put, List.setIfInBounds_toArray, List.set_cons_zero, List.set_cons_succ]; first | done | rfl)))
            (refine' Sq.skip (b := _) (by rfl) (by rfl) (by rfl) ?_ ?_; rotate_left 1; (· (simp only [Act.put, List.setIfInBounds_toArray, List.set_cons_zero, List.set_cons_succ]; first | done | rfl)))
            (refine' Sq.skip (b := _) (by rfl) (by rfl) (by rfl) ?_ ?_; rotate_left 1; (· (simp only [Act.put, List.setIfInBounds_toArray, List.set_cons_zero, List.set_cons_succ]; first | done | rfl)))
            (refine' Sq.skip (b := _) (by rfl) (by rfl) (by rfl) ?_ ?_; rotate_left 1; (· (simp only [Act.put, List.setIfInBounds_toArray, List.set_cons_zero, List.set_cons_succ]; first | done | rfl)))
            (refine' Sq.skip (b := _) (by rfl) (by rfl) (by rfl) ?_ ?_; rotate_left 1; (· (simp only [Act.put, List.setIfInBounds_toArray, List.set_cons_zero, List.set_cons_succ]; first | done | rfl)))
            (refine' Sq.skip (b := _) (by rfl) (by rfl) (by rfl) ?_ ?_; rotate_left 1; (· (simp only [Act.put, List.setIfInBounds_toArray, List.set_cons_zero, List.set_cons_succ]; first | done | rfl)))
            (refine' Sq.skip (b := _) (by rfl) (by rfl) (by rfl) ?_ ?_; rotate_left 1; (· (simp only [Act.put, List.setIfInBounds_toArray, List.set_cons_zero, List.set_cons_succ]; first | done | rfl)))
            (refine' Sq.skip (b := _) (by rfl) (by rfl) (by rfl) ?_ ?_; rotate_left 1; (· (simp only [Act.put, List.setIfInBounds_toArray, List.set_cons_zero, List.set_cons_succ]; first | done | rfl)))
            (refine' Sq.skip (b := _) (by rfl) (by rfl) (by rfl) ?_ ?_; rotate_left 1; (· (simp only [Act.put, List.setIfInBounds_toArray, List.set_cons_zero, List.set_cons_succ]; first | done | rfl)))
            (refine' Sq.skip (b := _) (by rfl) (by rfl) (by rfl) ?_ ?_; rotate_left 1; (· (simp only [Act.put, List.setIfInBounds_toArray, List.set_cons_zero, List.set_cons_succ]; first | done | rfl)))
            (refine' Sq.skip (b := _) (by rfl) (by rfl) (by rfl) ?_ ?_; rotate_left 1; (· (simp only [Act.put, List.setIfInBounds_toArray, List.set_cons_zero, List.set_cons_succ]; first | done | rfl)))
            (refine' Sq.det (E := _) (b := _) (by rfl) (by rfl) (by rfl) (fun w' hR hf => ?_) ?_ ?_; rotate_left 2; (· (go_simp; first | done | with_reducible rfl)); (· (simp only [Act.put, List.setIfInBounds_toArray, List.set_cons_zero, List.set_cons_succ]; first | done | rfl)))
            refine Sq.done fun y hR _ => ?_
            have HY := Lib.hid (HN2.out.trans ((below_undrew hR).mono (by have := HSZ.out; simp; omega)))
            clear hR
            go_wp2
            go_roundw
            case rel => exact ⟨1, by omega, rfl, Lib.hid (by rw [HNX.out]; exact HD.out.symm), HY⟩
            case measure => simp [intOf]; omega
          · obtain ⟨j, rfl⟩ : ∃ j, k = j + 1 := ⟨k - 1, by omega⟩
            have hjl : j < ws.length := by omega
            obtain ⟨_, off', hA', hcj⟩ := (HR.out.below HBR.out).elem winc_len hjl rfl
            obtain rfl : off = off' := by simpa using hA'
            obtain ⟨pv, hpv⟩ : ∃ pv, pv = ws[j].hi := ⟨_, rfl⟩
            have hpc := hcj 1 (.int .i64 pv) (by rw [hpv]; rfl)
            have HPC := Lib.hid hpc
            have hpp : prevC ws (j + 1) = pv := by simp [prevC, hpv, hjl]
            rw [hpp] at hd
            clear hA' hcj hpv hpc hpp hk0
            have HWJ : Hid (IntKind.i64.wrap (j : Int) = (j : Int)) := Lib.hid (IntWalk.i64_in _ (by omega))
            by_cases hL : lo < pv
            · rw [if_pos hL] at hd
              have HD := Lib.hid hd
              clear hd
              go_wp2_with (first
                | ((with_reducible refine at_dst 53 ?_); refine wpList_load_cells rfl 88 _ rfl g (off + (j + 1) * 2) (winc ws[j + 1]) rfl _ Try.underlying88 rfl size88 (fun j u hu => HC0.out j u hu) ?_; rw [HWC.out]))
              clear hc3
              refine wp_region_seq (nt := 84) (by kernel_rfl) [0,1,2,3,4,5,6,7,8,9,10,11,12,13] [] Rb Rb.refl Rb.trans [] (by kernel_rfl) (by simp) rfl (by kernel_rfl) (by simp) trivial ?_
              (refine' Sq.det (E := _) (b := _) (by rfl) (by rfl) (by rfl) (fun w' hR hf => ?_) ?_ ?_; rotate_left 2; (· (go_simp; first | done | with_reducible rfl)); (· (simp only [Act.put, List.setIfInBounds_toArray, List.set_cons_zero, List.set_cons_succ]; first | done | rfl)))
              (refine' Sq.det (E := _) (b := _) (by rfl) (by rfl) (by rfl) (fun w' hR hf => ?_) ?_ ?_; rotate_left 2; (· (go_simp; first | done | with_reducible rfl)); (· (simp only [Act.put, List.setIfInBounds_toArray, List.set_cons_zero, List.set_cons_succ]; first | done | rfl)))
              (refine' Sq.det (E := _) (b := _) (by rfl) (by rfl) (by rfl) (fun w' hR hf => ?_) ?_ ?_; rotate_left 2; (· (go_simp; first | done | with_reducible rfl)); (· (simp only [Act.put, List.setIfInBounds_toArray, List.set_cons_zero, List.set_cons_succ]; first | done | rfl)))
              (refine' Sq.det (E := _) (b := _) (by rfl) (by rfl) (by rfl) (fun w' hR hf => ?_) ?_ ?_; rotate_left 2; (· (go_simp; first | done | with_reducible rfl)); (· (simp only [Act.put, List.setIfInBounds_toArray, List.set_cons_zero, List.set_cons_succ]; first | done | rfl)))
              (refine' Sq.det (E := _) (b := _) (by rfl) (by rfl) (by rfl) (fun w' hR hf => ?_) ?_ ?_; rotate_left 2; (· (have hc : w'.cell? ⟨wr.heap.size, 0, none⟩ = some (.int .i64 lo) := (HV.out.below (below_undrew hR)).cell 0; go_simp; first | done | with_reducible rfl)); (· (simp only [Act.put, List.setIfInBounds_toArray, List.set_cons_zero, List.set_cons_succ]; first | done | rfl)))
              (refine' Sq.det (E := _) (b := _) (by rfl) (by rfl) (by rfl) (fun w' hR hf => ?_) ?_ ?_; rotate_left 2; (· (go_simp; first | done | with_reducible rfl)); (· (simp only [Act.put, List.setIfInBounds_toArray, List.set_cons_zero, List.set_cons_succ]; first | done | rfl)))
              (refine' Sq.det (E := _) (b := _) (by rfl) (by rfl) (by rfl) (fun w' hR hf => ?_) ?_ ?_; rotate_left 2; (· (have hc := (HPR2.out.below (below_undrew hR)).cell 3; go_simp; first | done | with_reducible rfl)); (· (simp only [Act.put, List.setIfInBounds_toArray, List.set_cons_zero, List.set_cons_succ]; first | done | rfl)))
              (refine' Sq.det (E := _) (b := _) (by rfl) (by rfl) (by rfl) (fun w' hR hf => ?_) ?_ ?_; rotate_left 2; (· (go_simp; first | done | with_reducible rfl)); (· (simp only [Act.put, List.setIfInBounds_toArray, List.set_cons_zero, List.set_cons_succ]; first | done | rfl)))
              (refine' Sq.det (E := _) (b := _) (by rfl) (by rfl) (by rfl) (fun w' hR hf => ?_) ?_ ?_; rotate_left 2; (· (have hw := HWJ.out; go_simp; first | done | with_reducible rfl)); (· (simp only [Act.put, List.setIfInBounds_toArray, List.set_cons_zero, List.set_cons_succ]; first | done | rfl)))
              (refine' Sq.det (E := _) (b := _) (by rfl) (by rfl) (by rfl) (fun w' hR hf => ?_) ?_ ?_; rotate_left 2; (· (go_simp; first | done | with_reducible rfl)); (· (simp only [Act.put, List.setIfInBounds_toArray, List.set_cons_zero, List.set_cons_succ]; first | done | rfl)))
              (refine' Sq.det (E := _) (b := _) (by rfl) (by rfl) (by rfl) (fun w' hR hf => ?_) ?_ ?_; rotate_left 2; (· (go_simp; first | done | with_reducible rfl)); (· (simp only [Act.put, List.setIfInBounds_toArray, List.set_cons_zero, List.set_cons_succ]; first | done | rfl)))
              (refine' Sq.det (E := _) (b := _) (by rfl) (by rfl) (by rfl) (fun w' hR hf => ?_) ?_ ?_; rotate_left 2; (· (have hc := (((bnew wr _).trans' (below_undrew hR)).cell (p := ⟨g, _, none⟩) HG.out).trans HPC.out; go_simp; first | done | with_reducible rfl)); (· (simp only [Act.put, List.setIfInBounds_toArray, List.set_cons_zero, List.set_cons_succ]; first | done | rfl)))
              (refine' Sq.det (E := _) (b := _) (by rfl) (by rfl) (by rfl) (fun w' hR hf => ?_) ?_ ?_; rotate_left 2; (· (go_simp; first | done | with_reducible rfl)); (· (simp only [Act.put, List.setIfInBounds_toArray, List.set_cons_zero, List.set_cons_succ]; first | done | rfl)))
              (refine' Sq.det (E := _) (b := _) (by rfl) (by rfl) (by rfl) (fun w' hR hf => ?_) ?_ ?_; rotate_left 2; (· (go_simp; first | done | with_reducible rfl)); (· (simp only [Act.put, List.setIfInBounds_toArray, List.set_cons_zero, List.set_cons_succ]; first | done | rfl)))
              refine Sq.done fun y hR _ => ?_
              have HY := Lib.hid (HN2.out.trans ((below_undrew hR).mono (by have := HSZ.out; simp; omega)))
              clear hR
              go_wp2
              go_ret
              exact ⟨by rw [HD.out]; rfl, HB.out.trans (HY.out.mono (Nat.le_succ _))⟩
            · rw [if_neg hL] at hd
              have HD := Lib.hid hd
              clear hd
              go_wp2_with (first
                | ((with_reducible refine at_dst 53 ?_); refine wpList_load_cells rfl 88 _ rfl g (off + (j + 1) * 2) (winc ws[j + 1]) rfl _ Try.underlying88 rfl size88 (fun j u hu => HC0.out j u hu) ?_; rw [HWC.out]))
              clear hc3
              refine wp_region_seq (nt := 84) (by kernel_rfl) [0,1,2,3,4,5,6,7,8,9,10,11,12,13] [] Rb Rb.refl Rb.trans [] (by kernel_rfl) (by simp) rfl (by kernel_rfl) (by simp) trivial ?_
              (refine' Sq.det (E := _) (b := _) (by rfl) (by rfl) (by rfl) (fun w' hR hf => ?_) ?_ ?_; rotate_left 2; (· (go_simp; first | done | with_reducible rfl)); (· (simp only [Act.put, List.setIfInBounds_toArray, List.set_cons_zero, List.set_cons_succ]; first | done | rfl)))
              (refine' Sq.det (E := _) (b := _) (by rfl) (by rfl) (by rfl) (fun w' hR hf => ?_) ?_ ?_; rotate_left 2; (· (go_simp; first | done | with_reducible rfl)); (· (simp only [Act.put, List.setIfInBounds_toArray, List.set_cons_zero, List.set_cons_succ]; first | done | rfl)))
              (refine' Sq.det (E := _) (b := _) (by rfl) (by rfl) (by rfl) (fun w' hR hf => ?_) ?_ ?_; rotate_left 2; (· (go_simp; first | done | with_reducible rfl)); (· (simp only [Act.put, List.setIfInBounds_toArray, List.set_cons_zero, List.set_cons_succ]; first | done | rfl)))
              (refine' Sq.det (E := _) (b := _) (by rfl) (by rfl) (by rfl) (fun w' hR hf => ?_) ?_ ?_; rotate_left 2; (· (go_simp; first | done | with_reducible rfl)); (· (simp only [Act.put, List.setIfInBounds_toArray, List.set_cons_zero, List.set_cons_succ]; first | done | rfl)))
              (refine' Sq.det (E := _) (b := _) (by rfl) (by rfl) (by rfl) (fun w' hR hf => ?_) ?_ ?_; rotate_left 2; (· (have hc : w'.cell? ⟨wr.heap.size, 0, none⟩ = some (.int .i64 lo) := (HV.out.below (below_undrew hR)).cell 0; go_simp; first | done | with_reducible rfl)); (· (simp only [Act.put, List.setIfInBounds_toArray, List.set_cons_zero, List.set_cons_succ]; first | done | rfl)))
              (refine' Sq.det (E := _) (b := _) (by rfl) (by rfl) (by rfl) (fun w' hR hf => ?_) ?_ ?_; rotate_left 2; (· (go_simp; first | done | with_reducible rfl)); (· (simp only [Act.put, List.setIfInBounds_toArray, List.set_cons_zero, List.set_cons_succ]; first | done | rfl)))
              (refine' Sq.det (E := _) (b := _) (by rfl) (by rfl) (by rfl) (fun w' hR hf => ?_) ?_ ?_; rotate_left 2; (· (have hc := (HPR2.out.below (below_undrew hR)).cell 3; go_simp; first | done | with_reducible rfl)); (· (simp only [Act.put, List.setIfInBounds_toArray, List.set_cons_zero, List.set_cons_succ]; first | done | rfl)))
              (refine' Sq.det (E := _) (b := _) (by rfl) (by rfl) (by rfl) (fun w' hR hf => ?_) ?_ ?_; rotate_left 2; (· (go_simp; first | done | with_reducible rfl)); (· (simp only [Act.put, List.setIfInBounds_toArray, List.set_cons_zero, List.set_cons_succ]; first | done | rfl)))
              (refine' Sq.det (E := _) (b := _) (by rfl) (by rfl) (by rfl) (fun w' hR hf => ?_) ?_ ?_; rotate_left 2; (· (have hw := HWJ.out; go_simp; first | done | with_reducible rfl)); (· (simp only [Act.put, List.setIfInBounds_toArray, List.set_cons_zero, List.set_cons_succ]; first | done | rfl)))
              (refine' Sq.det (E := _) (b := _) (by rfl) (by rfl) (by rfl) (fun w' hR hf => ?_) ?_ ?_; rotate_left 2; (· (go_simp; first | done | with_reducible rfl)); (· (simp only [Act.put, List.setIfInBounds_toArray, List.set_cons_zero, List.set_cons_succ]; first | done | rfl)))
              (refine' Sq.det (E := _) (b := _) (by rfl) (by rfl) (by rfl) (fun w' hR hf => ?_) ?_ ?_; rotate_left 2; (· (go_simp; first | done | with_reducible rfl)); (· (simp only [Act.put, List.setIfInBounds_toArray, List.set_cons_zero, List.set_cons_succ]; first | done | rfl)))
              (refine' Sq.det (E := _) (b := _) (by rfl) (by rfl) (by rfl) (fun w' hR hf => ?_) ?_ ?_; rotate_left 2; (· (have hc := (((bnew wr _).trans' (below_undrew hR)).cell (p := ⟨g, _, none⟩) HG.out).trans HPC.out; go_simp; first | done | with_reducible rfl)); (· (simp only [Act.put, List.setIfInBounds_toArray, List.set_cons_zero, List.set_cons_succ]; first | done | rfl)))
              (refine' Sq.det (E := _) (b := _) (by rfl) (by rfl) (by rfl) (fun w' hR hf => ?_) ?_ ?_; rotate_left 2; (· (go_simp; first | done | with_reducible rfl)); (· (simp only [Act.put, List.setIfInBounds_toArray, List.set_cons_zero, List.set_cons_succ]; first | done | rfl)))
              (refine' Sq.det (E := _) (b := _) (by rfl) (by rfl) (by rfl) (fun w' hR hf => ?_) ?_ ?_; rotate_left 2; (· (go_simp; first | done | with_reducible rfl)); (· (simp only [Act.put, List.setIfInBounds_toArray, List.set_cons_zero, List.set_cons_succ]; first | done | rfl)))
              refine Sq.done fun y hR _ => ?_
              have HY := Lib.hid (HN2.out.trans ((below_undrew hR).mono (by have := HSZ.out; simp; omega)))
              clear hR
              go_wp2
              go_roundw
              case rel => exact ⟨j + 1 + 1, by omega, by go_num, Lib.hid (by rw [HNX.out]; exact HD.out.symm), HY⟩
              case measure => simp [intOf]; omega
      · obtain rfl : k = ws.length := by omega
        have hd := HC.out
        rw [List.drop_length] at hd
        have HD : Hid (res = 0) := Lib.hid hd.symm
        clear hd
        go_wp2
        go_ret
        exact ⟨by rw [HD.out]; rfl, HBR.out⟩
  · have hb := bnew w (.cells #[.int .i64 r, .int .i64 d, .int .i64 p, .slice A ws.length cap] 24)
    have HB := Lib.hid hb
    have HP := Lib.hid (Blk.new w 24 #[.int .i64 r, .int .i64 d, .int .i64 p, .slice A ws.length cap])
    clear hr hb hres
    obtain rfl : most = p := by rw [hmo]; simp [mostC, hp]
    try clear hmo
    go_enter Try.func32, Try.ntmps32
    go_wp2
    rename_i hz _ _
    clear hz hp
    clear h1 h2 h3 h4 h5 h6
    go_loopw [4] (fun kv wr => ∃ (k : Nat), k ≤ ws.length ∧ kv = .int .i64 k ∧ Hid (chkW (most) (prevC ws k) (ws.drop k) = res) ∧ Hid (Below (w.heap.size + 1) (w.alloc (.cells #[.int .i64 r, .int .i64 d, .int .i64 (most), .slice A ws.length cap] 24)) wr)) (fun kv _ => ws.length - (intOf kv).toNat)
    case atStart => exact ⟨0, by omega, rfl, HRES, Lib.hid (Below.refl _ _)⟩
    case round =>
      obtain ⟨k, hk, rfl, HC, HBN⟩ := hrel
      have hsz : (w.alloc (.cells #[.int .i64 r, .int .i64 d, .int .i64 (most), .slice A ws.length cap] 24)).heap.size = w.heap.size + 1 := by simp
      have HPR : Hid (Blk wr w.heap.size 24 #[.int .i64 r, .int .i64 d, .int .i64 (most), .slice A ws.length cap]) := Lib.hid ((HBN.out.block w.heap.size (by omega)).trans HP.out)
      have HBR := Lib.hid (HB.out.trans (HBN.out.mono (Nat.le_succ _)))
      have hc3 := HPR.out.cell 3
      have HSZ := Lib.hid (show w.heap.size + 1 ≤ wr.heap.size by have := HBN.out.size; omega)
      clear hsz
      by_cases hlt : k < ws.length
      · obtain ⟨hg, off, rfl, hc⟩ := (HR.out.below HBR.out).elem winc_len hlt rfl
        have HC0 := Lib.hid hc
        have HG := Lib.hid hg
        have hd := chkW_drop (most := most) (last := prevC ws k) hlt
        rw [HC.out] at hd
        obtain ⟨lo, hlo⟩ : ∃ lo, lo = ws[k].lo := ⟨_, rfl⟩
        obtain ⟨hi, hhi⟩ : ∃ hi, hi = ws[k].hi := ⟨_, rfl⟩
        have hwc : winc ws[k] = [.int .i64 lo, .int .i64 hi] := by rw [hlo, hhi]; rfl
        have hbw : badW (most) ws[k] ↔ (lo < 0 ∨ hi ≤ lo ∨ most < hi) := by rw [hlo, hhi]; rfl
        have hnx : prevC ws (k + 1) = hi := by simp [prevC, hhi, hlt]
        rw [← hlo, ← hhi] at hd
        have HWC := Lib.hid hwc
        have HNX := Lib.hid hnx
        clear hc hg hwc hlo hhi hnx
        by_cases hB : lo < 0 ∨ hi ≤ lo ∨ most < hi
        · rw [if_pos (hbw.2 hB)] at hd
          have HD := Lib.hid hd
          clear hd hbw
          rcases (by omega : lo < 0 ∨ (0 ≤ lo ∧ hi ≤ lo) ∨ (0 ≤ lo ∧ lo < hi ∧ most < hi)) with h1 | h1 | h1
          all_goals
            clear hB
            go_wp2_with (first
              | ((with_reducible refine at_dst 53 ?_); refine wpList_load_cells rfl 88 _ rfl g (off + k * 2) (winc ws[k]) rfl _ Try.underlying88 rfl size88 (fun j u hu => HC0.out j u hu) ?_; rw [HWC.out]))
            go_ret
            exact ⟨by rw [HD.out]; rfl, HBR.out.alloc HBR.out.size _⟩
        · rw [if_neg (fun h => hB (hbw.1 h))] at hd
          have h1 : 0 ≤ lo := by omega
          have h2 : lo < hi := by omega
          have h3 : hi ≤ most := by omega
          clear hB hbw
          have HN2 := Lib.hid (HBN.out.alloc HSZ.out (.cells #[.int .i64 lo, .int .i64 hi] 88))
          have HPR2 := Lib.hid (HPR.out.alloc (.cells #[.int .i64 lo, .int .i64 hi] 88))
          have HV := Lib.hid (Blk.new wr 88 #[.int .i64 lo, .int .i64 hi])
          rcases Nat.eq_zero_or_pos k with hk0 | hk0
          · subst hk0
            rw [if_neg (by simp only [prevC, if_true]; omega)] at hd
            have HD := Lib.hid hd
            clear hd
            go_wp2_with (first
              | ((with_reducible refine at_dst 53 ?_); refine wpList_load_cells rfl 88 _ rfl g (off + 0 * 2) (winc ws[0]) rfl _ Try.underlying88 rfl size88 (fun j u hu => HC0.out j u hu) ?_; rw [HWC.out]))
            clear hc3
            refine wp_region_seq (nt := 84) (by kernel_rfl) [0,1,2,3,4,5,6,7,8,9,10,11,12,13] [] Rb Rb.refl Rb.trans [] (by kernel_rfl) (by simp) rfl (by kernel_rfl) (by simp) trivial ?_
            (refine' Sq.det (E := _) (b := _) (by rfl) (by rfl) (by rfl) (fun w' hR hf => ?_) ?_ ?_; rotate_left 2; (· (go_simp; first | done | with_reducible rfl)); (· (simp only [Act.put, List.setIfInBounds_toArray, List.set_cons_zero, List.set_cons_succ]; first | done | rfl)))
            (refine' Sq.det (E := _) (b := _) (by rfl) (by rfl) (by rfl) (fun w' hR hf => ?_) ?_ ?_; rotate_left 2; (· (go_simp; first | done | with_reducible rfl)); (· (simp only [Act.put, List.setIfInBounds_toArray, List.set_cons_zero, List.set_cons_succ]; first | done | rfl)))
            (refine' Sq.det (E := _) (b := _) (by rfl) (by rfl) (by rfl) (fun w' hR hf => ?_) ?_ ?_; rotate_left 2; (· (go_simp; first | done | with_reducible rfl)); (· (simp only [Act.put, List.setIfInBounds_toArray, List.set_cons_zero, List.set_cons_succ]; first | done | rfl)))
            (refine' Sq.skip (b := _) (by rfl) (by rfl) (by rfl) ?_ ?_; rotate_left 1; (· (simp only [Act.put, List.setIfInBounds_toArray, List.set_cons_zero, List.set_cons_succ]; first | done | rfl)))
            (refine' Sq.skip (b := _) (by rfl) (by rfl) (by rfl) ?_ ?_; rotate_left 1; (· (simp only [Act.put, List.setIfInBounds_toArray, List.set_cons_zero, List.set_cons_succ]; first | done | rfl)))
            (refine' Sq.skip (b := _) (by rfl) (by rfl) (by rfl) ?_ ?_; rotate_left 1; (· (simp only [Act.put, List.setIfInBounds_toArray, List.set_cons_zero, List.set_cons_succ]; first | done | rfl)))
            (refine' Sq.skip (b := _) (by rfl) (by rfl) (by rfl) ?_ ?_; rotate_left 1; (· (simp only [Act.put, List.setIfInBounds_toArray, List.set_cons_zero, List.set_cons_succ]; first | done | rfl)))
            (refine' Sq.skip (b := _) (by rfl) (by rfl) (by rfl) ?_ ?_; rotate_left 1; (· (simp only [Act.put, List.setIfInBounds_toArray, List.set_cons_zero, List.set_cons_succ]; first | done | rfl)))
            (refine' Sq.skip (b := _) (by rfl) (by rfl) (by rfl) ?_ ?_; rotate_left 1; (· (simp only [Act.put, List.setIfInBounds_toArray, List.set_cons_zero, List.set_cons_succ]; first | done | rfl)))
            (refine' Sq.skip (b := _) (by rfl) (by rfl) (by rfl) ?_ ?_; rotate_left 1; (· (simp only [Act.put, List.setIfInBounds_toArray, List.set_cons_zero, List.set_cons_succ]; first | done | rfl)))
            (refine' Sq.skip (b := _) (by rfl) (by rfl) (by rfl) ?_ ?_; rotate_left 1; (· (simp only [Act.put, List.setIfInBounds_toArray, List.set_cons_zero, List.set_cons_succ]; first | done | rfl)))
            (refine' Sq.skip (b := _) (by rfl) (by rfl) (by rfl) ?_ ?_; rotate_left 1; (· (simp only [Act.put, List.setIfInBounds_toArray, List.set_cons_zero, List.set_cons_succ]; first | done | rfl)))
            (refine' Sq.skip (b := _) (by rfl) (by rfl) (by rfl) ?_ ?_; rotate_left 1; (· (simp only [Act.put, List.setIfInBounds_toArray, List.set_cons_zero, List.set_cons_succ]; first | done | rfl)))
            (refine' Sq.det (E := _) (b := _) (by rfl) (by rfl) (by rfl) (fun w' hR hf => ?_) ?_ ?_; rotate_left 2; (· (go_simp; first | done | with_reducible rfl)); (· (simp only [Act.put, List.setIfInBounds_toArray, List.set_cons_zero, List.set_cons_succ]; first | done | rfl)))
            refine Sq.done fun y hR _ => ?_
            have HY := Lib.hid (HN2.out.trans ((below_undrew hR).mono (by have := HSZ.out; simp; omega)))
            clear hR
            go_wp2
            go_roundw
            case rel => exact ⟨1, by omega, rfl, Lib.hid (by rw [HNX.out]; exact HD.out.symm), HY⟩
            case measure => simp [intOf]; omega
          · obtain ⟨j, rfl⟩ : ∃ j, k = j + 1 := ⟨k - 1, by omega⟩
            have hjl : j < ws.length := by omega
            obtain ⟨_, off', hA', hcj⟩ := (HR.out.below HBR.out).elem winc_len hjl rfl
            obtain rfl : off = off' := by simpa using hA'
            obtain ⟨pv, hpv⟩ : ∃ pv, pv = ws[j].hi := ⟨_, rfl⟩
            have hpc := hcj 1 (.int .i64 pv) (by rw [hpv]; rfl)
            have HPC := Lib.hid hpc
            have hpp : prevC ws (j + 1) = pv := by simp [prevC, hpv, hjl]
            rw [hpp] at hd
            clear hA' hcj hpv hpc hpp hk0
            have HWJ : Hid (IntKind.i64.wrap (j : Int) = (j : Int)) := Lib.hid (IntWalk.i64_in _ (by omega))
            by_cases hL : lo < pv
            · rw [if_pos hL] at hd
              have HD := Lib.hid hd
              clear hd
              go_wp2_with (first
                | ((with_reducible refine at_dst 53 ?_); refine wpList_load_cells rfl 88 _ rfl g (off + (j + 1) * 2) (winc ws[j + 1]) rfl _ Try.underlying88 rfl size88 (fun j u hu => HC0.out j u hu) ?_; rw [HWC.out]))
              clear hc3
              refine wp_region_seq (nt := 84) (by kernel_rfl) [0,1,2,3,4,5,6,7,8,9,10,11,12,13] [] Rb Rb.refl Rb.trans [] (by kernel_rfl) (by simp) rfl (by kernel_rfl) (by simp) trivial ?_
              (refine' Sq.det (E := _) (b := _) (by rfl) (by rfl) (by rfl) (fun w' hR hf => ?_) ?_ ?_; rotate_left 2; (· (go_simp; first | done | with_reducible rfl)); (· (simp only [Act.put, List.setIfInBounds_toArray, List.set_cons_zero, List.set_cons_succ]; first | done | rfl)))
              (refine' Sq.det (E := _) (b := _) (by rfl) (by rfl) (by rfl) (fun w' hR hf => ?_) ?_ ?_; rotate_left 2; (· (go_simp; first | done | with_reducible rfl)); (· (simp only [Act.put, List.setIfInBounds_toArray, List.set_cons_zero, List.set_cons_succ]; first | done | rfl)))
              (refine' Sq.det (E := _) (b := _) (by rfl) (by rfl) (by rfl) (fun w' hR hf => ?_) ?_ ?_; rotate_left 2; (· (go_simp; first | done | with_reducible rfl)); (· (simp only [Act.put, List.setIfInBounds_toArray, List.set_cons_zero, List.set_cons_succ]; first | done | rfl)))
              (refine' Sq.det (E := _) (b := _) (by rfl) (by rfl) (by rfl) (fun w' hR hf => ?_) ?_ ?_; rotate_left 2; (· (go_simp; first | done | with_reducible rfl)); (· (simp only [Act.put, List.setIfInBounds_toArray, List.set_cons_zero, List.set_cons_succ]; first | done | rfl)))
              (refine' Sq.det (E := _) (b := _) (by rfl) (by rfl) (by rfl) (fun w' hR hf => ?_) ?_ ?_; rotate_left 2; (· (have hc : w'.cell? ⟨wr.heap.size, 0, none⟩ = some (.int .i64 lo) := (HV.out.below (below_undrew hR)).cell 0; go_simp; first | done | with_reducible rfl)); (· (simp only [Act.put, List.setIfInBounds_toArray, List.set_cons_zero, List.set_cons_succ]; first | done | rfl)))
              (refine' Sq.det (E := _) (b := _) (by rfl) (by rfl) (by rfl) (fun w' hR hf => ?_) ?_ ?_; rotate_left 2; (· (go_simp; first | done | with_reducible rfl)); (· (simp only [Act.put, List.setIfInBounds_toArray, List.set_cons_zero, List.set_cons_succ]; first | done | rfl)))
              (refine' Sq.det (E := _) (b := _) (by rfl) (by rfl) (by rfl) (fun w' hR hf => ?_) ?_ ?_; rotate_left 2; (· (have hc := (HPR2.out.below (below_undrew hR)).cell 3; go_simp; first | done | with_reducible rfl)); (· (simp only [Act.put, List.setIfInBounds_toArray, List.set_cons_zero, List.set_cons_succ]; first | done | rfl)))
              (refine' Sq.det (E := _) (b := _) (by rfl) (by rfl) (by rfl) (fun w' hR hf => ?_) ?_ ?_; rotate_left 2; (· (go_simp; first | done | with_reducible rfl)); (· (simp only [Act.put, List.setIfInBounds_toArray, List.set_cons_zero, List.set_cons_succ]; first | done | rfl)))
              (refine' Sq.det (E := _) (b := _) (by rfl) (by rfl) (by rfl) (fun w' hR hf => ?_) ?_ ?_; rotate_left 2; (· (have hw := HWJ.out; go_simp; first | done | with_reducible rfl)); (· (simp only [Act.put, List.setIfInBounds_toArray, List.set_cons_zero, List.set_cons_succ]; first | done | rfl)))
              (refine' Sq.det (E := _) (b := _) (by rfl) (by rfl) (by rfl) (fun w' hR hf => ?_) ?_ ?_; rotate_left 2; (· (go_simp; first | done | with_reducible rfl)); (· (simp only [Act.put, List.setIfInBounds_toArray, List.set_cons_zero, List.set_cons_succ]; first | done | rfl)))
              (refine' Sq.det (E := _) (b := _) (by rfl) (by rfl) (by rfl) (fun w' hR hf => ?_) ?_ ?_; rotate_left 2; (· (go_simp; first | done | with_reducible rfl)); (· (simp only [Act.put, List.setIfInBounds_toArray, List.set_cons_zero, List.set_cons_succ]; first | done | rfl)))
              (refine' Sq.det (E := _) (b := _) (by rfl) (by rfl) (by rfl) (fun w' hR hf => ?_) ?_ ?_; rotate_left 2; (· (have hc := (((bnew wr _).trans' (below_undrew hR)).cell (p := ⟨g, _, none⟩) HG.out).trans HPC.out; go_simp; first | done | with_reducible rfl)); (· (simp only [Act.put, List.setIfInBounds_toArray, List.set_cons_zero, List.set_cons_succ]; first | done | rfl)))
              (refine' Sq.det (E := _) (b := _) (by rfl) (by rfl) (by rfl) (fun w' hR hf => ?_) ?_ ?_; rotate_left 2; (· (go_simp; first | done | with_reducible rfl)); (· (simp only [Act.put, List.setIfInBounds_toArray, List.set_cons_zero, List.set_cons_succ]; first | done | rfl)))
              (refine' Sq.det (E := _) (b := _) (by rfl) (by rfl) (by rfl) (fun w' hR hf => ?_) ?_ ?_; rotate_left 2; (· (go_simp; first | done | with_reducible rfl)); (· (simp only [Act.put, List.setIfInBounds_toArray, List.set_cons_zero, List.set_cons_succ]; first | done | rfl)))
              refine Sq.done fun y hR _ => ?_
              have HY := Lib.hid (HN2.out.trans ((below_undrew hR).mono (by have := HSZ.out; simp; omega)))
              clear hR
              go_wp2
              go_ret
              exact ⟨by rw [HD.out]; rfl, HB.out.trans (HY.out.mono (Nat.le_succ _))⟩
            · rw [if_neg hL] at hd
              have HD := Lib.hid hd
              clear hd
              go_wp2_with (first
                | ((with_reducible refine at_dst 53 ?_); refine wpList_load_cells rfl 88 _ rfl g (off + (j + 1) * 2) (winc ws[j + 1]) rfl _ Try.underlying88 rfl size88 (fun j u hu => HC0.out j u hu) ?_; rw [HWC.out]))
              clear hc3
              refine wp_region_seq (nt := 84) (by kernel_rfl) [0,1,2,3,4,5,6,7,8,9,10,11,12,13] [] Rb Rb.refl Rb.trans [] (by kernel_rfl) (by simp) rfl (by kernel_rfl) (by simp) trivial ?_
              (refine' Sq.det (E := _) (b := _) (by rfl) (by rfl) (by rfl) (fun w' hR hf => ?_) ?_ ?_; rotate_left 2; (· (go_simp; first | done | with_reducible rfl)); (· (simp only [Act.put, List.setIfInBounds_toArray, List.set_cons_zero, List.set_cons_succ]; first | done | rfl)))
              (refine' Sq.det (E := _) (b := _) (by rfl) (by rfl) (by rfl) (fun w' hR hf => ?_) ?_ ?_; rotate_left 2; (· (go_simp; first | done | with_reducible rfl)); (· (simp only [Act.put, List.setIfInBounds_toArray, List.set_cons_zero, List.set_cons_succ]; first | done | rfl)))
              (refine' Sq.det (E := _) (b := _) (by rfl) (by rfl) (by rfl) (fun w' hR hf => ?_) ?_ ?_; rotate_left 2; (· (go_simp; first | done | with_reducible rfl)); (· (simp only [Act.put, List.setIfInBounds_toArray, List.set_cons_zero, List.set_cons_succ]; first | done | rfl)))
              (refine' Sq.det (E := _) (b := _) (by rfl) (by rfl) (by rfl) (fun w' hR hf => ?_) ?_ ?_; rotate_left 2; (· (go_simp; first | done | with_reducible rfl)); (· (simp only [Act.put, List.setIfInBounds_toArray, List.set_cons_zero, List.set_cons_succ]; first | done | rfl)))
              (refine' Sq.det (E := _) (b := _) (by rfl) (by rfl) (by rfl) (fun w' hR hf => ?_) ?_ ?_; rotate_left 2; (· (have hc : w'.cell? ⟨wr.heap.size, 0, none⟩ = some (.int .i64 lo) := (HV.out.below (below_undrew hR)).cell 0; go_simp; first | done | with_reducible rfl)); (· (simp only [Act.put, List.setIfInBounds_toArray, List.set_cons_zero, List.set_cons_succ]; first | done | rfl)))
              (refine' Sq.det (E := _) (b := _) (by rfl) (by rfl) (by rfl) (fun w' hR hf => ?_) ?_ ?_; rotate_left 2; (· (go_simp; first | done | with_reducible rfl)); (· (simp only [Act.put, List.setIfInBounds_toArray, List.set_cons_zero, List.set_cons_succ]; first | done | rfl)))
              (refine' Sq.det (E := _) (b := _) (by rfl) (by rfl) (by rfl) (fun w' hR hf => ?_) ?_ ?_; rotate_left 2; (· (have hc := (HPR2.out.below (below_undrew hR)).cell 3; go_simp; first | done | with_reducible rfl)); (· (simp only [Act.put, List.setIfInBounds_toArray, List.set_cons_zero, List.set_cons_succ]; first | done | rfl)))
              (refine' Sq.det (E := _) (b := _) (by rfl) (by rfl) (by rfl) (fun w' hR hf => ?_) ?_ ?_; rotate_left 2; (· (go_simp; first | done | with_reducible rfl)); (· (simp only [Act.put, List.setIfInBounds_toArray, List.set_cons_zero, List.set_cons_succ]; first | done | rfl)))
              (refine' Sq.det (E := _) (b := _) (by rfl) (by rfl) (by rfl) (fun w' hR hf => ?_) ?_ ?_; rotate_left 2; (· (have hw := HWJ.out; go_simp; first | done | with_reducible rfl)); (· (simp only [Act.put, List.setIfInBounds_toArray, List.set_cons_zero, List.set_cons_succ]; first | done | rfl)))
              (refine' Sq.det (E := _) (b := _) (by rfl) (by rfl) (by rfl) (fun w' hR hf => ?_) ?_ ?_; rotate_left 2; (· (go_simp; first | done | with_reducible rfl)); (· (simp only [Act.put, List.setIfInBounds_toArray, List.set_cons_zero, List.set_cons_succ]; first | done | rfl)))
              (refine' Sq.det (E := _) (b := _) (by rfl) (by rfl) (by rfl) (fun w' hR hf => ?_) ?_ ?_; rotate_left 2; (· (go_simp; first | done | with_reducible rfl)); (· (simp only [Act.put, List.setIfInBounds_toArray, List.set_cons_zero, List.set_cons_succ]; first | done | rfl)))
              (refine' Sq.det (E := _) (b := _) (by rfl) (by rfl) (by rfl) (fun w' hR hf => ?_) ?_ ?_; rotate_left 2; (· (have hc := (((bnew wr _).trans' (below_undrew hR)).cell (p := ⟨g, _, none⟩) HG.out).trans HPC.out; go_simp; first | done | with_reducible rfl)); (· (simp only [Act.put, List.setIfInBounds_toArray, List.set_cons_zero, List.set_cons_succ]; first | done | rfl)))
              (refine' Sq.det (E := _) (b := _) (by rfl) (by rfl) (by rfl) (fun w' hR hf => ?_) ?_ ?_; rotate_left 2; (· (go_simp; first | done | with_reducible rfl)); (· (simp only [Act.put, List.setIfInBounds_toArray, List.set_cons_zero, List.set_cons_succ]; first | done | rfl)))
              (refine' Sq.det (E := _) (b := _) (by rfl) (by rfl) (by rfl) (fun w' hR hf => ?_) ?_ ?_; rotate_left 2; (· (go_simp; first | done | with_reducible rfl)); (· (simp only [Act.put, List.setIfInBounds_toArray, List.set_cons_zero, List.set_cons_succ]; first | done | rfl)))
              refine Sq.done fun y hR _ => ?_
              have HY := Lib.hid (HN2.out.trans ((below_undrew hR).mono (by have := HSZ.out; simp; omega)))
              clear hR
              go_wp2
              go_roundw
              case rel => exact ⟨j + 1 + 1, by omega, by go_num, Lib.hid (by rw [HNX.out]; exact HD.out.symm), HY⟩
              case measure => simp [intOf]; omega
      · obtain rfl : k = ws.length := by omega
        have hd := HC.out
        rw [List.drop_length] at hd
        have HD : Hid (res = 0) := Lib.hid hd.symm
        clear hd
        go_wp2
        go_ret
        exact ⟨by rw [HD.out]; rfl, HBR.out⟩
theorem refcheck_any (c : Cfg) (g : Nat) (A : Option Addr) (cap : Nat) (w : World) (hr : Rd w g 2 A c.ws.length (c.ws.flatMap winc)) (hm : c.ws.length ≤ maxLen) :
    Calls Try.prog 32 #[.agg (cfgc c A cap).toArray] w fun e w' => e = .returned (.int .i64 (chkC c)) ∧ Below w.heap.size w w' := by
  by_cases h : badC c
  · have e : chkC c = 2 := by simp [chkC, h]
    rw [e]; exact refcheck_bad c A cap w h
  · by_cases hl : 32 < c.ws.length
    · have e : chkC c = 9 := by simp [chkC, h, hl]
      rw [e]; exact refcheck_long c A cap w h hl hm
    · have e : chkC c = chkW (mostC c.period) 0 c.ws := by simp [chkC, h, hl]
      rw [e]
      simp only [badC, not_or, Int.not_lt] at h
      obtain ⟨h1, h2, h3, h4, h5, h6⟩ := h
      exact refcheck_walk c.rate c.delay c.period _ _ c.ws g A cap w hr h1 h2 h3 h4 h5 h6 (by omega) rfl rfl
end Go.Proofs.Ytnddahajfcmkiaa
