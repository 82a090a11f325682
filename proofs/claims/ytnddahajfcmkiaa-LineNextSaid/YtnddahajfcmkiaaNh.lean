/- The reference's Next. Conditions: none. -/
import Derived.Test.YtnddahajfcmkiaaNg
import Derived.Test.YtnddahajfcmkiaaPs
namespace Go.Proofs.Ytnddahajfcmkiaa
set_option linter.unusedSimpArgs false
set_option linter.unusedVariables false
set_option linter.unnecessarySimpa false
open Go.RowKit
theorem atW_bd {c : Cfg} {m : Int} (hok : chkC c = 0) (hm : 0 ≤ m) {x : Wn} (hx : x ∈ c.ws) : 0 ≤ m / c.period * c.period + x.lo ∧ m / c.period * c.period + x.lo ≤ m + 10000000 := by
  have h1 := chk_all hok x hx
  have hp := chk_per hok
  rcases Int.lt_or_eq_of_le hp.1 with h | h
  · have hem : m / c.period * c.period = m - m % c.period := by have := Int.emod_add_mul_ediv m c.period; rw [Int.mul_comm]; omega
    have hr0 : 0 ≤ m % c.period := Int.emod_nonneg _ (by omega)
    have hr1 : m % c.period < c.period := Int.emod_lt_of_pos _ h
    have : 0 ≤ m / c.period := Int.ediv_nonneg hm hp.1
    have : 0 ≤ m / c.period * c.period := Int.mul_nonneg this hp.1
    omega
  · rw [← h]; simp; omega
theorem refBest_drop {p m b : Int} {ws : List Wn} {k : Nat} (hk : k < ws.length) : refBest p m b (ws.drop k) = refBest p m (if m ≤ atW p m ws[k] ∧ (b < 0 ∨ atW p m ws[k] < b) then atW p m ws[k] else b) (ws.drop (k + 1)) := by
  rw [List.drop_eq_getElem_cons hk]; rfl
set_option maxRecDepth 20000 in
set_option maxHeartbeats 4000000 in
theorem refNext_bad (c : Cfg) (m : Int) (g cap : Nat) (A : Option Addr) (w : World) (hr : Rd w g 2 A c.ws.length (c.ws.flatMap winc)) (hl : c.ws.length ≤ maxLen) (hx : chkC c ≠ 0 ∨ 1099511627776 < m) :
    Calls Try.prog 38 #[.agg (cfgc c A cap).toArray, .int .i64 m] w fun e w' => e = .returned (.int .i64 (-1)) ∧ Below w.heap.size w w' := by
  have HR := Lib.hid hr
  have HP := Lib.hid (Blk.new w 24 (cfgc c A cap).toArray)
  have HB := Lib.hid (bnew w (.cells (cfgc c A cap).toArray 24))
  obtain ⟨K, hK⟩ : ∃ K, chkC c = K := ⟨_, rfl⟩
  rw [hK] at hx
  have HK := Lib.hid hK
  clear hr hK
  by_cases h0 : K = 0
  · subst h0
    have hm : 1099511627776 < m := by simpa using hx
    clear hx
    go_enter Try.func38, Try.ntmps38
    go_wp2_with (first
      | ((with_reducible refine at_dst 8 ?_); (refine wpList_load_cells rfl 24 _ rfl w.heap.size 0 (cfgc c A cap) rfl _ Try.underlying24 rfl info24' (fun j u hu => ?_) ?_; (rw [Nat.zero_add, HP.out.cell, List.getElem?_toArray]; exact hu)))
      | (go_at_call 32; (refine (refcheck_any c g A cap _ (HR.out.below HB.out) hl).mono ?_; rintro e y1 ⟨he, hb1⟩; rw [HK.out] at he; subst he; have HB1 := Lib.hid (HB.out.trans' hb1); clear hb1)))
    go_ret
    exact ⟨rfl, HB1.out⟩
  · clear hx
    have hkb : (K == 0) = false := by simpa using h0
    go_enter Try.func38, Try.ntmps38
    go_wp2_with (first
      | ((with_reducible refine at_dst 8 ?_); (refine wpList_load_cells rfl 24 _ rfl w.heap.size 0 (cfgc c A cap) rfl _ Try.underlying24 rfl info24' (fun j u hu => ?_) ?_; (rw [Nat.zero_add, HP.out.cell, List.getElem?_toArray]; exact hu)))
      | (go_at_call 32; (refine (refcheck_any c g A cap _ (HR.out.below HB.out) hl).mono ?_; rintro e y1 ⟨he, hb1⟩; rw [HK.out] at he; subst he; have HB1 := Lib.hid (HB.out.trans' hb1); clear hb1)))
    go_ret
    exact ⟨rfl, HB1.out⟩
set_option maxRecDepth 20000 in
set_option maxHeartbeats 8000000 in
theorem refNext_walk (r d p m M : Int) (ws : List Wn) (g cap : Nat) (A : Option Addr) (w : World) (res : Int) (cb : Bool) (hr : Rd w g 2 A ws.length (ws.flatMap winc)) (hl : ws.length ≤ maxLen) (hok : chkC ⟨r, d, p, ws⟩ = 0) (hm : m ≤ 1099511627776) (hM : M = max m 0)
    (hcb : cb = conC ⟨r, d, p, ws⟩ M) (hres : res = if cb = true then M else refBest p M (-1) ws) :
    Calls Try.prog 38 #[.agg #[.int .i64 r, .int .i64 d, .int .i64 p, .slice A ws.length cap], .int .i64 m] w fun e w' => e = .returned (.int .i64 res) ∧ Below w.heap.size w w' := by
  have HR := Lib.hid hr
  have HP := Lib.hid (Blk.new w 24 #[.int .i64 r, .int .i64 d, .int .i64 p, .slice A ws.length cap])
  have HB := Lib.hid (bnew w (.cells #[.int .i64 r, .int .i64 d, .int .i64 p, .slice A ws.length cap] 24))
  have HK := Lib.hid hok
  clear hr hok
  rcases (by omega : (0 ≤ m ∧ M = m) ∨ (m < 0 ∧ M = 0)) with ⟨hm0, rfl⟩ | ⟨hm0, rfl⟩
  · have HCB := Lib.hid hcb
    have HRES := Lib.hid hres
    clear hM hcb hres
    cases cb
    · have HE : Hid (res = refBest p M (-1) ws) := Lib.hid (by rw [HRES.out]; simp)
      go_enter Try.func38, Try.ntmps38
      go_wp2_with (first
        | ((with_reducible refine at_dst 8 ?_); (refine wpList_load_cells rfl 24 _ rfl w.heap.size 0 [.int .i64 r, .int .i64 d, .int .i64 p, .slice A ws.length cap] rfl _ Try.underlying24 rfl info24' (fun j u hu => ?_) ?_; (rw [Nat.zero_add, HP.out.cell, List.getElem?_toArray]; exact hu)))
        | (go_at_call 32; (refine (refcheck_any ⟨r, d, p, ws⟩ g A cap _ (HR.out.below HB.out) hl).mono ?_; rintro e y0 ⟨he, hb1⟩; rw [HK.out] at he; subst he; have HB1 := Lib.hid (HB.out.trans' hb1); have HP1 := Lib.hid (HP.out.below hb1); clear hb1))
        | ((with_reducible refine at_dst 17 ?_); (refine wpList_load_cells rfl 24 _ rfl w.heap.size 0 [.int .i64 r, .int .i64 d, .int .i64 p, .slice A ws.length cap] rfl _ Try.underlying24 rfl info24' (fun j u hu => ?_) ?_; (rw [Nat.zero_add, HP1.out.cell, List.getElem?_toArray]; exact hu)))
        | (go_at_call 35; (refine (refcon_walk r d p _ _ ws g cap A _ (HR.out.below HB1.out) hl HCB.out).mono ?_; rintro e y1 ⟨he, hb1⟩; subst he; have HB3 := Lib.hid (HB1.out.trans' hb1); have HP3 := Lib.hid (HP1.out.below hb1); clear hb1))
        | fail)
      go_loopw [5, 6] (fun bv iv wr => ∃ (k : Nat) (best : Int), k ≤ ws.length ∧ bv = .int .i64 best ∧ iv = .int .i64 k ∧ Hid (refBest p M best (ws.drop k) = res) ∧ (-1 ≤ best ∧ best ≤ 4398046511104) ∧ Hid (Below y1.heap.size y1 wr)) (fun _ iv _ => ws.length - (intOf iv).toNat)
      case atStart => exact ⟨0, -1, Nat.zero_le _, rfl, rfl, Lib.hid HE.out.symm, by omega, Lib.hid (Below.refl _ _)⟩
      case round =>
        obtain ⟨k, best, hk, rfl, rfl, HRB, ⟨hbb0, hbb1⟩, HBR⟩ := hrel
        have HB4 := Lib.hid (HB3.out.trans' HBR.out)
        have HP4 := Lib.hid (HP3.out.below HBR.out)
        have hl32 : ws.length ≤ 32 := (chk_ok HK.out).2.1
        have hc2 : wr.cell? ⟨w.heap.size, 2, none⟩ = some (.int .i64 p) := HP4.out.cell 2
        have hc3 : wr.cell? ⟨w.heap.size, 3, none⟩ = some (.slice A ws.length cap) := HP4.out.cell 3
        by_cases hlt : k < ws.length
        · obtain ⟨hg, off, rfl, hc⟩ := (HR.out.below HB4.out).elem winc_len hlt rfl
          have hdr := refBest_drop (p := p) (m := M) (b := best) hlt
          rw [HRB.out] at hdr
          have hab := atW_bd (c := ⟨r, d, p, ws⟩) (m := M) HK.out (by omega) (x := ws[k]) (List.getElem_mem hlt)
          have hall := chk_all HK.out ws[k] (List.getElem_mem hlt)
          have hper := chk_per HK.out
          simp only at hab hper
          obtain ⟨lo, hlo⟩ : ∃ lo, ws[k].lo = lo := ⟨_, rfl⟩
          have hcl : wr.cell? ⟨g, off + k * 2, none⟩ = some (.int .i64 lo) := by have := hc 0 (.int .i64 lo) (by rw [← hlo]; rfl); simpa using this
          have HCL := Lib.hid (And.intro hg hcl)
          rw [hlo] at hab hall
          obtain ⟨av, hav⟩ : ∃ av, atW p M ws[k] = av := ⟨_, rfl⟩
          rw [hav] at hdr
          obtain ⟨hab0, hab1⟩ := hab
          have hl0 := hall.1
          have hl1 : lo ≤ 10000000 := by omega
          have hp1 := hper.2
          clear hc hall hg
          by_cases hp : 0 < p
          · obtain ⟨a0, ha0⟩ : ∃ a, M / p * p + lo = a := ⟨_, rfl⟩
            rw [ha0] at hab0 hab1
            have hdv0 : 0 ≤ M / p := Int.ediv_nonneg (by omega) (by omega)
            have hdv1 : M / p ≤ M := Int.ediv_le_self _ (by omega)
            have hdp : M / p * p ≤ M := Int.ediv_mul_le _ (by omega)
            have hdp0 : 0 ≤ M / p * p := Int.mul_nonneg hdv0 (by omega)
            have HPZ : Hid (¬ p = 0) := Lib.hid (by omega)
            have HQ1 : Hid (IntKind.i64.wrap ((M : Int).tdiv p) = M / p) := Lib.hid (by rw [Int.tdiv_eq_ediv_of_nonneg (by omega)]; exact IntWalk.i64_in _ (by omega))
            have HQ2 : Hid (IntKind.i64.wrap (M / p * p) = M / p * p) := Lib.hid (IntWalk.i64_in _ (by omega))
            have HQ3 : Hid (IntKind.i64.wrap (M / p * p + lo) = a0) := Lib.hid (by rw [IntWalk.i64_in _ (by omega), ha0])
            by_cases hl : a0 < M
            · have hav' : av = a0 + p := by rw [← hav]; unfold atW; rw [if_pos hp, hlo, ha0, if_pos hl]
              clear hav hdv0 hdv1 hdp hdp0 ha0
              subst hav'
              by_cases c1 : M ≤ (a0 + p)
              · by_cases c2 : best < 0
                · have HD := Lib.hid (show refBest p M (a0 + p) (ws.drop (k + 1)) = res by rw [hdr, if_pos ⟨c1, .inl c2⟩])
                  clear hdr
                  go_wp2
                  clear hc2 hc3 hcl
                  refine wp_region_seq (nt := 72) (by kernel_rfl) [0,1,2,3,4,5,6,7,8,9,10,11,12,13,14] [] Rb Rb.refl Rb.trans [] (by kernel_rfl) (by simp) rfl (by kernel_rfl) (by simp) trivial ?_
                  iterate 2 (refine' Sq.det (E := _) (b := _) (by rfl) (by rfl) (by rfl) (fun w' hR hf => ?_) ?_ ?_; rotate_left 2; (· (go_simp; first | done | with_reducible rfl)); (· (simp only [Act.put, List.setIfInBounds_toArray, List.set_cons_zero, List.set_cons_succ]; first | done | rfl)))
                  (refine' Sq.det (E := _) (b := _) (by rfl) (by rfl) (by rfl) (fun w' hR hf => ?_) ?_ ?_; rotate_left 2; (· (have hc : w'.cell? ⟨w.heap.size, 2, none⟩ = some (.int .i64 p) := (HP4.out.below (below_undrew hR)).cell 2; go_simp; first | done | with_reducible rfl)); (· (simp only [Act.put, List.setIfInBounds_toArray, List.set_cons_zero, List.set_cons_succ]; first | done | rfl)))
                  (refine' Sq.det (E := _) (b := _) (by rfl) (by rfl) (by rfl) (fun w' hR hf => ?_) ?_ ?_; rotate_left 2; (· (have hz := HPZ.out; have hc := HQ1.out; have hw0 : IntKind.i64.wrap 0 = 0 := (by kernel_rfl); go_simp; first | done | with_reducible rfl)); (· (simp only [Act.put, List.setIfInBounds_toArray, List.set_cons_zero, List.set_cons_succ]; first | done | rfl)))
                  (refine' Sq.det (E := _) (b := _) (by rfl) (by rfl) (by rfl) (fun w' hR hf => ?_) ?_ ?_; rotate_left 2; (· (go_simp; first | done | with_reducible rfl)); (· (simp only [Act.put, List.setIfInBounds_toArray, List.set_cons_zero, List.set_cons_succ]; first | done | rfl)))
                  (refine' Sq.det (E := _) (b := _) (by rfl) (by rfl) (by rfl) (fun w' hR hf => ?_) ?_ ?_; rotate_left 2; (· (have hc : w'.cell? ⟨w.heap.size, 2, none⟩ = some (.int .i64 p) := (HP4.out.below (below_undrew hR)).cell 2; go_simp; first | done | with_reducible rfl)); (· (simp only [Act.put, List.setIfInBounds_toArray, List.set_cons_zero, List.set_cons_succ]; first | done | rfl)))
                  (refine' Sq.det (E := _) (b := _) (by rfl) (by rfl) (by rfl) (fun w' hR hf => ?_) ?_ ?_; rotate_left 2; (· (have hc := HQ2.out; have hw0 : IntKind.i64.wrap 0 = 0 := (by kernel_rfl); go_simp; first | done | with_reducible rfl)); (· (simp only [Act.put, List.setIfInBounds_toArray, List.set_cons_zero, List.set_cons_succ]; first | done | rfl)))
                  (refine' Sq.det (E := _) (b := _) (by rfl) (by rfl) (by rfl) (fun w' hR hf => ?_) ?_ ?_; rotate_left 2; (· (go_simp; first | done | with_reducible rfl)); (· (simp only [Act.put, List.setIfInBounds_toArray, List.set_cons_zero, List.set_cons_succ]; first | done | rfl)))
                  (refine' Sq.det (E := _) (b := _) (by rfl) (by rfl) (by rfl) (fun w' hR hf => ?_) ?_ ?_; rotate_left 2; (· (have hc : w'.cell? ⟨w.heap.size, 3, none⟩ = some (.slice (some ⟨g, off, none⟩) ws.length cap) := (HP4.out.below (below_undrew hR)).cell 3; go_simp; first | done | with_reducible rfl)); (· (simp only [Act.put, List.setIfInBounds_toArray, List.set_cons_zero, List.set_cons_succ]; first | done | rfl)))
                  iterate 3 (refine' Sq.det (E := _) (b := _) (by rfl) (by rfl) (by rfl) (fun w' hR hf => ?_) ?_ ?_; rotate_left 2; (· (go_simp; first | done | with_reducible rfl)); (· (simp only [Act.put, List.setIfInBounds_toArray, List.set_cons_zero, List.set_cons_succ]; first | done | rfl)))
                  (refine' Sq.det (E := _) (b := _) (by rfl) (by rfl) (by rfl) (fun w' hR hf => ?_) ?_ ?_; rotate_left 2; (· (have hc : w'.cell? ⟨g, off + k * 2, none⟩ = some (.int .i64 lo) := ((below_undrew hR).cell (p := ⟨g, _, none⟩) HCL.out.1).trans HCL.out.2; go_simp; first | done | with_reducible rfl)); (· (simp only [Act.put, List.setIfInBounds_toArray, List.set_cons_zero, List.set_cons_succ]; first | done | rfl)))
                  (refine' Sq.det (E := _) (b := _) (by rfl) (by rfl) (by rfl) (fun w' hR hf => ?_) ?_ ?_; rotate_left 2; (· (have hc := HQ3.out; go_simp; first | done | with_reducible rfl)); (· (simp only [Act.put, List.setIfInBounds_toArray, List.set_cons_zero, List.set_cons_succ]; first | done | rfl)))
                  (refine' Sq.det (E := _) (b := _) (by rfl) (by rfl) (by rfl) (fun w' hR hf => ?_) ?_ ?_; rotate_left 2; (· (go_simp; first | done | with_reducible rfl)); (· (simp only [Act.put, List.setIfInBounds_toArray, List.set_cons_zero, List.set_cons_succ]; first | done | rfl)))
                  refine Sq.done fun y hR _ => ?_
                  have HBR2 : Hid (Below y1.heap.size y1 y) := Lib.hid (HBR.out.trans' (below_undrew hR))
                  have hc2 : y.cell? ⟨w.heap.size, 2, none⟩ = some (.int .i64 p) := (HP4.out.below (below_undrew hR)).cell 2
                  clear hR
                  go_wp2
                  go_roundw
                  case rel => exact ⟨k + 1, _, by omega, rfl, by go_num, HD, by omega, by first | exact HBR2 | exact HBR⟩
                  case measure => simp [intOf]; omega
                · by_cases c3 : (a0 + p) < best
                  · have HD := Lib.hid (show refBest p M (a0 + p) (ws.drop (k + 1)) = res by rw [hdr, if_pos ⟨c1, .inr c3⟩])
                    clear hdr
                    go_wp2
                    clear hc2 hc3 hcl
                    refine wp_region_seq (nt := 72) (by kernel_rfl) [0,1,2,3,4,5,6,7,8,9,10,11,12,13,14] [] Rb Rb.refl Rb.trans [] (by kernel_rfl) (by simp) rfl (by kernel_rfl) (by simp) trivial ?_
                    iterate 2 (refine' Sq.det (E := _) (b := _) (by rfl) (by rfl) (by rfl) (fun w' hR hf => ?_) ?_ ?_; rotate_left 2; (· (go_simp; first | done | with_reducible rfl)); (· (simp only [Act.put, List.setIfInBounds_toArray, List.set_cons_zero, List.set_cons_succ]; first | done | rfl)))
                    (refine' Sq.det (E := _) (b := _) (by rfl) (by rfl) (by rfl) (fun w' hR hf => ?_) ?_ ?_; rotate_left 2; (· (have hc : w'.cell? ⟨w.heap.size, 2, none⟩ = some (.int .i64 p) := (HP4.out.below (below_undrew hR)).cell 2; go_simp; first | done | with_reducible rfl)); (· (simp only [Act.put, List.setIfInBounds_toArray, List.set_cons_zero, List.set_cons_succ]; first | done | rfl)))
                    (refine' Sq.det (E := _) (b := _) (by rfl) (by rfl) (by rfl) (fun w' hR hf => ?_) ?_ ?_; rotate_left 2; (· (have hz := HPZ.out; have hc := HQ1.out; have hw0 : IntKind.i64.wrap 0 = 0 := (by kernel_rfl); go_simp; first | done | with_reducible rfl)); (· (simp only [Act.put, List.setIfInBounds_toArray, List.set_cons_zero, List.set_cons_succ]; first | done | rfl)))
                    (refine' Sq.det (E := _) (b := _) (by rfl) (by rfl) (by rfl) (fun w' hR hf => ?_) ?_ ?_; rotate_left 2; (· (go_simp; first | done | with_reducible rfl)); (· (simp only [Act.put, List.setIfInBounds_toArray, List.set_cons_zero, List.set_cons_succ]; first | done | rfl)))
                    (refine' Sq.det (E := _) (b := _) (by rfl) (by rfl) (by rfl) (fun w' hR hf => ?_) ?_ ?_; rotate_left 2; (· (have hc : w'.cell? ⟨w.heap.size, 2, none⟩ = some (.int .i64 p) := (HP4.out.below (below_undrew hR)).cell 2; go_simp; first | done | with_reducible rfl)); (· (simp only [Act.put, List.setIfInBounds_toArray, List.set_cons_zero, List.set_cons_succ]; first | done | rfl)))
                    (refine' Sq.det (E := _) (b := _) (by rfl) (by rfl) (by rfl) (fun w' hR hf => ?_) ?_ ?_; rotate_left 2; (· (have hc := HQ2.out; have hw0 : IntKind.i64.wrap 0 = 0 := (by kernel_rfl); go_simp; first | done | with_reducible rfl)); (· (simp only [Act.put, List.setIfInBounds_toArray, List.set_cons_zero, List.set_cons_succ]; first | done | rfl)))
                    (refine' Sq.det (E := _) (b := _) (by rfl) (by rfl) (by rfl) (fun w' hR hf => ?_) ?_ ?_; rotate_left 2; (· (go_simp; first | done | with_reducible rfl)); (· (simp only [Act.put, List.setIfInBounds_toArray, List.set_cons_zero, List.set_cons_succ]; first | done | rfl)))
                    (refine' Sq.det (E := _) (b := _) (by rfl) (by rfl) (by rfl) (fun w' hR hf => ?_) ?_ ?_; rotate_left 2; (· (have hc : w'.cell? ⟨w.heap.size, 3, none⟩ = some (.slice (some ⟨g, off, none⟩) ws.length cap) := (HP4.out.below (below_undrew hR)).cell 3; go_simp; first | done | with_reducible rfl)); (· (simp only [Act.put, List.setIfInBounds_toArray, List.set_cons_zero, List.set_cons_succ]; first | done | rfl)))
                    iterate 3 (refine' Sq.det (E := _) (b := _) (by rfl) (by rfl) (by rfl) (fun w' hR hf => ?_) ?_ ?_; rotate_left 2; (· (go_simp; first | done | with_reducible rfl)); (· (simp only [Act.put, List.setIfInBounds_toArray, List.set_cons_zero, List.set_cons_succ]; first | done | rfl)))
                    (refine' Sq.det (E := _) (b := _) (by rfl) (by rfl) (by rfl) (fun w' hR hf => ?_) ?_ ?_; rotate_left 2; (· (have hc : w'.cell? ⟨g, off + k * 2, none⟩ = some (.int .i64 lo) := ((below_undrew hR).cell (p := ⟨g, _, none⟩) HCL.out.1).trans HCL.out.2; go_simp; first | done | with_reducible rfl)); (· (simp only [Act.put, List.setIfInBounds_toArray, List.set_cons_zero, List.set_cons_succ]; first | done | rfl)))
                    (refine' Sq.det (E := _) (b := _) (by rfl) (by rfl) (by rfl) (fun w' hR hf => ?_) ?_ ?_; rotate_left 2; (· (have hc := HQ3.out; go_simp; first | done | with_reducible rfl)); (· (simp only [Act.put, List.setIfInBounds_toArray, List.set_cons_zero, List.set_cons_succ]; first | done | rfl)))
                    (refine' Sq.det (E := _) (b := _) (by rfl) (by rfl) (by rfl) (fun w' hR hf => ?_) ?_ ?_; rotate_left 2; (· (go_simp; first | done | with_reducible rfl)); (· (simp only [Act.put, List.setIfInBounds_toArray, List.set_cons_zero, List.set_cons_succ]; first | done | rfl)))
                    refine Sq.done fun y hR _ => ?_
                    have HBR2 : Hid (Below y1.heap.size y1 y) := Lib.hid (HBR.out.trans' (below_undrew hR))
                    have hc2 : y.cell? ⟨w.heap.size, 2, none⟩ = some (.int .i64 p) := (HP4.out.below (below_undrew hR)).cell 2
                    clear hR
                    go_wp2
                    go_roundw
                    case rel => exact ⟨k + 1, _, by omega, rfl, by go_num, HD, by omega, by first | exact HBR2 | exact HBR⟩
                    case measure => simp [intOf]; omega
                  · have HD := Lib.hid (show refBest p M best (ws.drop (k + 1)) = res by rw [hdr, if_neg (by omega)])
                    clear hdr
                    go_wp2
                    clear hc2 hc3 hcl
                    refine wp_region_seq (nt := 72) (by kernel_rfl) [0,1,2,3,4,5,6,7,8,9,10,11,12,13,14] [] Rb Rb.refl Rb.trans [] (by kernel_rfl) (by simp) rfl (by kernel_rfl) (by simp) trivial ?_
                    iterate 2 (refine' Sq.det (E := _) (b := _) (by rfl) (by rfl) (by rfl) (fun w' hR hf => ?_) ?_ ?_; rotate_left 2; (· (go_simp; first | done | with_reducible rfl)); (· (simp only [Act.put, List.setIfInBounds_toArray, List.set_cons_zero, List.set_cons_succ]; first | done | rfl)))
                    (refine' Sq.det (E := _) (b := _) (by rfl) (by rfl) (by rfl) (fun w' hR hf => ?_) ?_ ?_; rotate_left 2; (· (have hc : w'.cell? ⟨w.heap.size, 2, none⟩ = some (.int .i64 p) := (HP4.out.below (below_undrew hR)).cell 2; go_simp; first | done | with_reducible rfl)); (· (simp only [Act.put, List.setIfInBounds_toArray, List.set_cons_zero, List.set_cons_succ]; first | done | rfl)))
                    (refine' Sq.det (E := _) (b := _) (by rfl) (by rfl) (by rfl) (fun w' hR hf => ?_) ?_ ?_; rotate_left 2; (· (have hz := HPZ.out; have hc := HQ1.out; have hw0 : IntKind.i64.wrap 0 = 0 := (by kernel_rfl); go_simp; first | done | with_reducible rfl)); (· (simp only [Act.put, List.setIfInBounds_toArray, List.set_cons_zero, List.set_cons_succ]; first | done | rfl)))
                    (refine' Sq.det (E := _) (b := _) (by rfl) (by rfl) (by rfl) (fun w' hR hf => ?_) ?_ ?_; rotate_left 2; (· (go_simp; first | done | with_reducible rfl)); (· (simp only [Act.put, List.setIfInBounds_toArray, List.set_cons_zero, List.set_cons_succ]; first | done | rfl)))
                    (refine' Sq.det (E := _) (b := _) (by rfl) (by rfl) (by rfl) (fun w' hR hf => ?_) ?_ ?_; rotate_left 2; (· (have hc : w'.cell? ⟨w.heap.size, 2, none⟩ = some (.int .i64 p) := (HP4.out.below (below_undrew hR)).cell 2; go_simp; first | done | with_reducible rfl)); (· (simp only [Act.put, List.setIfInBounds_toArray, List.set_cons_zero, List.set_cons_succ]; first | done | rfl)))
                    (refine' Sq.det (E := _) (b := _) (by rfl) (by rfl) (by rfl) (fun w' hR hf => ?_) ?_ ?_; rotate_left 2; (· (have hc := HQ2.out; have hw0 : IntKind.i64.wrap 0 = 0 := (by kernel_rfl); go_simp; first | done | with_reducible rfl)); (· (simp only [Act.put, List.setIfInBounds_toArray, List.set_cons_zero, List.set_cons_succ]; first | done | rfl)))
                    (refine' Sq.det (E := _) (b := _) (by rfl) (by rfl) (by rfl) (fun w' hR hf => ?_) ?_ ?_; rotate_left 2; (· (go_simp; first | done | with_reducible rfl)); (· (simp only [Act.put, List.setIfInBounds_toArray, List.set_cons_zero, List.set_cons_succ]; first | done | rfl)))
                    (refine' Sq.det (E := _) (b := _) (by rfl) (by rfl) (by rfl) (fun w' hR hf => ?_) ?_ ?_; rotate_left 2; (· (have hc : w'.cell? ⟨w.heap.size, 3, none⟩ = some (.slice (some ⟨g, off, none⟩) ws.length cap) := (HP4.out.below (below_undrew hR)).cell 3; go_simp; first | done | with_reducible rfl)); (· (simp only [Act.put, List.setIfInBounds_toArray, List.set_cons_zero, List.set_cons_succ]; first | done | rfl)))
                    iterate 3 (refine' Sq.det (E := _) (b := _) (by rfl) (by rfl) (by rfl) (fun w' hR hf => ?_) ?_ ?_; rotate_left 2; (· (go_simp; first | done | with_reducible rfl)); (· (simp only [Act.put, List.setIfInBounds_toArray, List.set_cons_zero, List.set_cons_succ]; first | done | rfl)))
                    (refine' Sq.det (E := _) (b := _) (by rfl) (by rfl) (by rfl) (fun w' hR hf => ?_) ?_ ?_; rotate_left 2; (· (have hc : w'.cell? ⟨g, off + k * 2, none⟩ = some (.int .i64 lo) := ((below_undrew hR).cell (p := ⟨g, _, none⟩) HCL.out.1).trans HCL.out.2; go_simp; first | done | with_reducible rfl)); (· (simp only [Act.put, List.setIfInBounds_toArray, List.set_cons_zero, List.set_cons_succ]; first | done | rfl)))
                    (refine' Sq.det (E := _) (b := _) (by rfl) (by rfl) (by rfl) (fun w' hR hf => ?_) ?_ ?_; rotate_left 2; (· (have hc := HQ3.out; go_simp; first | done | with_reducible rfl)); (· (simp only [Act.put, List.setIfInBounds_toArray, List.set_cons_zero, List.set_cons_succ]; first | done | rfl)))
                    (refine' Sq.det (E := _) (b := _) (by rfl) (by rfl) (by rfl) (fun w' hR hf => ?_) ?_ ?_; rotate_left 2; (· (go_simp; first | done | with_reducible rfl)); (· (simp only [Act.put, List.setIfInBounds_toArray, List.set_cons_zero, List.set_cons_succ]; first | done | rfl)))
                    refine Sq.done fun y hR _ => ?_
                    have HBR2 : Hid (Below y1.heap.size y1 y) := Lib.hid (HBR.out.trans' (below_undrew hR))
                    have hc2 : y.cell? ⟨w.heap.size, 2, none⟩ = some (.int .i64 p) := (HP4.out.below (below_undrew hR)).cell 2
                    clear hR
                    go_wp2
                    go_roundw
                    case rel => exact ⟨k + 1, _, by omega, rfl, by go_num, HD, by omega, by first | exact HBR2 | exact HBR⟩
                    case measure => simp [intOf]; omega
              · have HD := Lib.hid (show refBest p M best (ws.drop (k + 1)) = res by rw [hdr, if_neg (by omega)])
                clear hdr
                go_wp2
                clear hc2 hc3 hcl
                refine wp_region_seq (nt := 72) (by kernel_rfl) [0,1,2,3,4,5,6,7,8,9,10,11,12,13,14] [] Rb Rb.refl Rb.trans [] (by kernel_rfl) (by simp) rfl (by kernel_rfl) (by simp) trivial ?_
                iterate 2 (refine' Sq.det (E := _) (b := _) (by rfl) (by rfl) (by rfl) (fun w' hR hf => ?_) ?_ ?_; rotate_left 2; (· (go_simp; first | done | with_reducible rfl)); (· (simp only [Act.put, List.setIfInBounds_toArray, List.set_cons_zero, List.set_cons_succ]; first | done | rfl)))
                (refine' Sq.det (E := _) (b := _) (by rfl) (by rfl) (by rfl) (fun w' hR hf => ?_) ?_ ?_; rotate_left 2; (· (have hc : w'.cell? ⟨w.heap.size, 2, none⟩ = some (.int .i64 p) := (HP4.out.below (below_undrew hR)).cell 2; go_simp; first | done | with_reducible rfl)); (· (simp only [Act.put, List.setIfInBounds_toArray, List.set_cons_zero, List.set_cons_succ]; first | done | rfl)))
                (refine' Sq.det (E := _) (b := _) (by rfl) (by rfl) (by rfl) (fun w' hR hf => ?_) ?_ ?_; rotate_left 2; (· (have hz := HPZ.out; have hc := HQ1.out; have hw0 : IntKind.i64.wrap 0 = 0 := (by kernel_rfl); go_simp; first | done | with_reducible rfl)); (· (simp only [Act.put, List.setIfInBounds_toArray, List.set_cons_zero, List.set_cons_succ]; first | done | rfl)))
                (refine' Sq.det (E := _) (b := _) (by rfl) (by rfl) (by rfl) (fun w' hR hf => ?_) ?_ ?_; rotate_left 2; (· (go_simp; first | done | with_reducible rfl)); (· (simp only [Act.put, List.setIfInBounds_toArray, List.set_cons_zero, List.set_cons_succ]; first | done | rfl)))
                (refine' Sq.det (E := _) (b := _) (by rfl) (by rfl) (by rfl) (fun w' hR hf => ?_) ?_ ?_; rotate_left 2; (· (have hc : w'.cell? ⟨w.heap.size, 2, none⟩ = some (.int .i64 p) := (HP4.out.below (below_undrew hR)).cell 2; go_simp; first | done | with_reducible rfl)); (· (simp only [Act.put, List.setIfInBounds_toArray, List.set_cons_zero, List.set_cons_succ]; first | done | rfl)))
                (refine' Sq.det (E := _) (b := _) (by rfl) (by rfl) (by rfl) (fun w' hR hf => ?_) ?_ ?_; rotate_left 2; (· (have hc := HQ2.out; have hw0 : IntKind.i64.wrap 0 = 0 := (by kernel_rfl); go_simp; first | done | with_reducible rfl)); (· (simp only [Act.put, List.setIfInBounds_toArray, List.set_cons_zero, List.set_cons_succ]; first | done | rfl)))
                (refine' Sq.det (E := _) (b := _) (by rfl) (by rfl) (by rfl) (fun w' hR hf => ?_) ?_ ?_; rotate_left 2; (· (go_simp; first | done | with_reducible rfl)); (· (simp only [Act.put, List.setIfInBounds_toArray, List.set_cons_zero, List.set_cons_succ]; first | done | rfl)))
                (refine' Sq.det (E := _) (b := _) (by rfl) (by rfl) (by rfl) (fun w' hR hf => ?_) ?_ ?_; rotate_left 2; (· (have hc : w'.cell? ⟨w.heap.size, 3, none⟩ = some (.slice (some ⟨g, off, none⟩) ws.length cap) := (HP4.out.below (below_undrew hR)).cell 3; go_simp; first | done | with_reducible rfl)); (· (simp only [Act.put, List.setIfInBounds_toArray, List.set_cons_zero, List.set_cons_succ]; first | done | rfl)))
                iterate 3 (refine' Sq.det (E := _) (b := _) (by rfl) (by rfl) (by rfl) (fun w' hR hf => ?_) ?_ ?_; rotate_left 2; (· (go_simp; first | done | with_reducible rfl)); (· (simp only [Act.put, List.setIfInBounds_toArray, List.set_cons_zero, List.set_cons_succ]; first | done | rfl)))
                (refine' Sq.det (E := _) (b := _) (by rfl) (by rfl) (by rfl) (fun w' hR hf => ?_) ?_ ?_; rotate_left 2; (· (have hc : w'.cell? ⟨g, off + k * 2, none⟩ = some (.int .i64 lo) := ((below_undrew hR).cell (p := ⟨g, _, none⟩) HCL.out.1).trans HCL.out.2; go_simp; first | done | with_reducible rfl)); (· (simp only [Act.put, List.setIfInBounds_toArray, List.set_cons_zero, List.set_cons_succ]; first | done | rfl)))
                (refine' Sq.det (E := _) (b := _) (by rfl) (by rfl) (by rfl) (fun w' hR hf => ?_) ?_ ?_; rotate_left 2; (· (have hc := HQ3.out; go_simp; first | done | with_reducible rfl)); (· (simp only [Act.put, List.setIfInBounds_toArray, List.set_cons_zero, List.set_cons_succ]; first | done | rfl)))
                (refine' Sq.det (E := _) (b := _) (by rfl) (by rfl) (by rfl) (fun w' hR hf => ?_) ?_ ?_; rotate_left 2; (· (go_simp; first | done | with_reducible rfl)); (· (simp only [Act.put, List.setIfInBounds_toArray, List.set_cons_zero, List.set_cons_succ]; first | done | rfl)))
                refine Sq.done fun y hR _ => ?_
                have HBR2 : Hid (Below y1.heap.size y1 y) := Lib.hid (HBR.out.trans' (below_undrew hR))
                have hc2 : y.cell? ⟨w.heap.size, 2, none⟩ = some (.int .i64 p) := (HP4.out.below (below_undrew hR)).cell 2
                clear hR
                go_wp2
                go_roundw
                case rel => exact ⟨k + 1, _, by omega, rfl, by go_num, HD, by omega, by first | exact HBR2 | exact HBR⟩
                case measure => simp [intOf]; omega
            · have hav' : av = a0 := by rw [← hav]; unfold atW; rw [if_pos hp, hlo, ha0, if_neg hl]
              clear hav hdv0 hdv1 hdp hdp0 ha0
              subst hav'
              by_cases c1 : M ≤ av
              · by_cases c2 : best < 0
                · have HD := Lib.hid (show refBest p M av (ws.drop (k + 1)) = res by rw [hdr, if_pos ⟨c1, .inl c2⟩])
                  clear hdr
                  go_wp2
                  clear hc2 hc3 hcl
                  refine wp_region_seq (nt := 72) (by kernel_rfl) [0,1,2,3,4,5,6,7,8,9,10,11,12,13,14] [] Rb Rb.refl Rb.trans [] (by kernel_rfl) (by simp) rfl (by kernel_rfl) (by simp) trivial ?_
                  iterate 2 (refine' Sq.det (E := _) (b := _) (by rfl) (by rfl) (by rfl) (fun w' hR hf => ?_) ?_ ?_; rotate_left 2; (· (go_simp; first | done | with_reducible rfl)); (· (simp only [Act.put, List.setIfInBounds_toArray, List.set_cons_zero, List.set_cons_succ]; first | done | rfl)))
                  (refine' Sq.det (E := _) (b := _) (by rfl) (by rfl) (by rfl) (fun w' hR hf => ?_) ?_ ?_; rotate_left 2; (· (have hc : w'.cell? ⟨w.heap.size, 2, none⟩ = some (.int .i64 p) := (HP4.out.below (below_undrew hR)).cell 2; go_simp; first | done | with_reducible rfl)); (· (simp only [Act.put, List.setIfInBounds_toArray, List.set_cons_zero, List.set_cons_succ]; first | done | rfl)))
                  (refine' Sq.det (E := _) (b := _) (by rfl) (by rfl) (by rfl) (fun w' hR hf => ?_) ?_ ?_; rotate_left 2; (· (have hz := HPZ.out; have hc := HQ1.out; have hw0 : IntKind.i64.wrap 0 = 0 := (by kernel_rfl); go_simp; first | done | with_reducible rfl)); (· (simp only [Act.put, List.setIfInBounds_toArray, List.set_cons_zero, List.set_cons_succ]; first | done | rfl)))
                  (refine' Sq.det (E := _) (b := _) (by rfl) (by rfl) (by rfl) (fun w' hR hf => ?_) ?_ ?_; rotate_left 2; (· (go_simp; first | done | with_reducible rfl)); (· (simp only [Act.put, List.setIfInBounds_toArray, List.set_cons_zero, List.set_cons_succ]; first | done | rfl)))
                  (refine' Sq.det (E := _) (b := _) (by rfl) (by rfl) (by rfl) (fun w' hR hf => ?_) ?_ ?_; rotate_left 2; (· (have hc : w'.cell? ⟨w.heap.size, 2, none⟩ = some (.int .i64 p) := (HP4.out.below (below_undrew hR)).cell 2; go_simp; first | done | with_reducible rfl)); (· (simp only [Act.put, List.setIfInBounds_toArray, List.set_cons_zero, List.set_cons_succ]; first | done | rfl)))
                  (refine' Sq.det (E := _) (b := _) (by rfl) (by rfl) (by rfl) (fun w' hR hf => ?_) ?_ ?_; rotate_left 2; (· (have hc := HQ2.out; have hw0 : IntKind.i64.wrap 0 = 0 := (by kernel_rfl); go_simp; first | done | with_reducible rfl)); (· (simp only [Act.put, List.setIfInBounds_toArray, List.set_cons_zero, List.set_cons_succ]; first | done | rfl)))
                  (refine' Sq.det (E := _) (b := _) (by rfl) (by rfl) (by rfl) (fun w' hR hf => ?_) ?_ ?_; rotate_left 2; (· (go_simp; first | done | with_reducible rfl)); (· (simp only [Act.put, List.setIfInBounds_toArray, List.set_cons_zero, List.set_cons_succ]; first | done | rfl)))
                  (refine' Sq.det (E := _) (b := _) (by rfl) (by rfl) (by rfl) (fun w' hR hf => ?_) ?_ ?_; rotate_left 2; (· (have hc : w'.cell? ⟨w.heap.size, 3, none⟩ = some (.slice (some ⟨g, off, none⟩) ws.length cap) := (HP4.out.below (below_undrew hR)).cell 3; go_simp; first | done | with_reducible rfl)); (· (simp only [Act.put, List.setIfInBounds_toArray, List.set_cons_zero, List.set_cons_succ]; first | done | rfl)))
                  iterate 3 (refine' Sq.det (E := _) (b := _) (by rfl) (by rfl) (by rfl) (fun w' hR hf => ?_) ?_ ?_; rotate_left 2; (· (go_simp; first | done | with_reducible rfl)); (· (simp only [Act.put, List.setIfInBounds_toArray, List.set_cons_zero, List.set_cons_succ]; first | done | rfl)))
                  (refine' Sq.det (E := _) (b := _) (by rfl) (by rfl) (by rfl) (fun w' hR hf => ?_) ?_ ?_; rotate_left 2; (· (have hc : w'.cell? ⟨g, off + k * 2, none⟩ = some (.int .i64 lo) := ((below_undrew hR).cell (p := ⟨g, _, none⟩) HCL.out.1).trans HCL.out.2; go_simp; first | done | with_reducible rfl)); (· (simp only [Act.put, List.setIfInBounds_toArray, List.set_cons_zero, List.set_cons_succ]; first | done | rfl)))
                  (refine' Sq.det (E := _) (b := _) (by rfl) (by rfl) (by rfl) (fun w' hR hf => ?_) ?_ ?_; rotate_left 2; (· (have hc := HQ3.out; go_simp; first | done | with_reducible rfl)); (· (simp only [Act.put, List.setIfInBounds_toArray, List.set_cons_zero, List.set_cons_succ]; first | done | rfl)))
                  (refine' Sq.det (E := _) (b := _) (by rfl) (by rfl) (by rfl) (fun w' hR hf => ?_) ?_ ?_; rotate_left 2; (· (go_simp; first | done | with_reducible rfl)); (· (simp only [Act.put, List.setIfInBounds_toArray, List.set_cons_zero, List.set_cons_succ]; first | done | rfl)))
                  refine Sq.done fun y hR _ => ?_
                  have HBR2 : Hid (Below y1.heap.size y1 y) := Lib.hid (HBR.out.trans' (below_undrew hR))
                  have hc2 : y.cell? ⟨w.heap.size, 2, none⟩ = some (.int .i64 p) := (HP4.out.below (below_undrew hR)).cell 2
                  clear hR
                  go_wp2
                  go_roundw
                  case rel => exact ⟨k + 1, _, by omega, rfl, by go_num, HD, by omega, by first | exact HBR2 | exact HBR⟩
                  case measure => simp [intOf]; omega
                · by_cases c3 : av < best
                  · have HD := Lib.hid (show refBest p M av (ws.drop (k + 1)) = res by rw [hdr, if_pos ⟨c1, .inr c3⟩])
                    clear hdr
                    go_wp2
                    clear hc2 hc3 hcl
                    refine wp_region_seq (nt := 72) (by kernel_rfl) [0,1,2,3,4,5,6,7,8,9,10,11,12,13,14] [] Rb Rb.refl Rb.trans [] (by kernel_rfl) (by simp) rfl (by kernel_rfl) (by simp) trivial ?_
                    iterate 2 (refine' Sq.det (E := _) (b := _) (by rfl) (by rfl) (by rfl) (fun w' hR hf => ?_) ?_ ?_; rotate_left 2; (· (go_simp; first | done | with_reducible rfl)); (· (simp only [Act.put, List.setIfInBounds_toArray, List.set_cons_zero, List.set_cons_succ]; first | done | rfl)))
                    (refine' Sq.det (E := _) (b := _) (by rfl) (by rfl) (by rfl) (fun w' hR hf => ?_) ?_ ?_; rotate_left 2; (· (have hc : w'.cell? ⟨w.heap.size, 2, none⟩ = some (.int .i64 p) := (HP4.out.below (below_undrew hR)).cell 2; go_simp; first | done | with_reducible rfl)); (· (simp only [Act.put, List.setIfInBounds_toArray, List.set_cons_zero, List.set_cons_succ]; first | done | rfl)))
                    (refine' Sq.det (E := _) (b := _) (by rfl) (by rfl) (by rfl) (fun w' hR hf => ?_) ?_ ?_; rotate_left 2; (· (have hz := HPZ.out; have hc := HQ1.out; have hw0 : IntKind.i64.wrap 0 = 0 := (by kernel_rfl); go_simp; first | done | with_reducible rfl)); (· (simp only [Act.put, List.setIfInBounds_toArray, List.set_cons_zero, List.set_cons_succ]; first | done | rfl)))
                    (refine' Sq.det (E := _) (b := _) (by rfl) (by rfl) (by rfl) (fun w' hR hf => ?_) ?_ ?_; rotate_left 2; (· (go_simp; first | done | with_reducible rfl)); (· (simp only [Act.put, List.setIfInBounds_toArray, List.set_cons_zero, List.set_cons_succ]; first | done | rfl)))
                    (refine' Sq.det (E := _) (b := _) (by rfl) (by rfl) (by rfl) (fun w' hR hf => ?_) ?_ ?_; rotate_left 2; (· (have hc : w'.cell? ⟨w.heap.size, 2, none⟩ = some (.int .i64 p) := (HP4.out.below (below_undrew hR)).cell 2; go_simp; first | done | with_reducible rfl)); (· (simp only [Act.put, List.setIfInBounds_toArray, List.set_cons_zero, List.set_cons_succ]; first | done | rfl)))
                    (refine' Sq.det (E := _) (b := _) (by rfl) (by rfl) (by rfl) (fun w' hR hf => ?_) ?_ ?_; rotate_left 2; (· (have hc := HQ2.out; have hw0 : IntKind.i64.wrap 0 = 0 := (by kernel_rfl); go_simp; first | done | with_reducible rfl)); (· (simp only [Act.put, List.setIfInBounds_toArray, List.set_cons_zero, List.set_cons_succ]; first | done | rfl)))
                    (refine' Sq.det (E := _) (b := _) (by rfl) (by rfl) (by rfl) (fun w' hR hf => ?_) ?_ ?_; rotate_left 2; (· (go_simp; first | done | with_reducible rfl)); (· (simp only [Act.put, List.setIfInBounds_toArray, List.set_cons_zero, List.set_cons_succ]; first | done | rfl)))
                    (refine' Sq.det (E := _) (b := _) (by rfl) (by rfl) (by rfl) (fun w' hR hf => ?_) ?_ ?_; rotate_left 2; (· (have hc : w'.cell? ⟨w.heap.size, 3, none⟩ = some (.slice (some ⟨g, off, none⟩) ws.length cap) := (HP4.out.below (below_undrew hR)).cell 3; go_simp; first | done | with_reducible rfl)); (· (simp only [Act.put, List.setIfInBounds_toArray, List.set_cons_zero, List.set_cons_succ]; first | done | rfl)))
                    iterate 3 (refine' Sq.det (E := _) (b := _) (by rfl) (by rfl) (by rfl) (fun w' hR hf => ?_) ?_ ?_; rotate_left 2; (· (go_simp; first | done | with_reducible rfl)); (· (simp only [Act.put, List.setIfInBounds_toArray, List.set_cons_zero, List.set_cons_succ]; first | done | rfl)))
                    (refine' Sq.det (E := _) (b := _) (by rfl) (by rfl) (by rfl) (fun w' hR hf => ?_) ?_ ?_; rotate_left 2; (· (have hc : w'.cell? ⟨g, off + k * 2, none⟩ = some (.int .i64 lo) := ((below_undrew hR).cell (p := ⟨g, _, none⟩) HCL.out.1).trans HCL.out.2; go_simp; first | done | with_reducible rfl)); (· (simp only [Act.put, List.setIfInBounds_toArray, List.set_cons_zero, List.set_cons_succ]; first | done | rfl)))
                    (refine' Sq.det (E := _) (b := _) (by rfl) (by rfl) (by rfl) (fun w' hR hf => ?_) ?_ ?_; rotate_left 2; (· (have hc := HQ3.out; go_simp; first | done | with_reducible rfl)); (· (simp only [Act.put, List.setIfInBounds_toArray, List.set_cons_zero, List.set_cons_succ]; first | done | rfl)))
                    (refine' Sq.det (E := _) (b := _) (by rfl) (by rfl) (by rfl) (fun w' hR hf => ?_) ?_ ?_; rotate_left 2; (· (go_simp; first | done | with_reducible rfl)); (· (simp only [Act.put, List.setIfInBounds_toArray, List.set_cons_zero, List.set_cons_succ]; first | done | rfl)))
                    refine Sq.done fun y hR _ => ?_
                    have HBR2 : Hid (Below y1.heap.size y1 y) := Lib.hid (HBR.out.trans' (below_undrew hR))
                    have hc2 : y.cell? ⟨w.heap.size, 2, none⟩ = some (.int .i64 p) := (HP4.out.below (below_undrew hR)).cell 2
                    clear hR
                    go_wp2
                    go_roundw
                    case rel => exact ⟨k + 1, _, by omega, rfl, by go_num, HD, by omega, by first | exact HBR2 | exact HBR⟩
                    case measure => simp [intOf]; omega
                  · have HD := Lib.hid (show refBest p M best (ws.drop (k + 1)) = res by rw [hdr, if_neg (by omega)])
                    clear hdr
                    go_wp2
                    clear hc2 hc3 hcl
                    refine wp_region_seq (nt := 72) (by kernel_rfl) [0,1,2,3,4,5,6,7,8,9,10,11,12,13,14] [] Rb Rb.refl Rb.trans [] (by kernel_rfl) (by simp) rfl (by kernel_rfl) (by simp) trivial ?_
                    iterate 2 (refine' Sq.det (E := _) (b := _) (by rfl) (by rfl) (by rfl) (fun w' hR hf => ?_) ?_ ?_; rotate_left 2; (· (go_simp; first | done | with_reducible rfl)); (· (simp only [Act.put, List.setIfInBounds_toArray, List.set_cons_zero, List.set_cons_succ]; first | done | rfl)))
                    (refine' Sq.det (E := _) (b := _) (by rfl) (by rfl) (by rfl) (fun w' hR hf => ?_) ?_ ?_; rotate_left 2; (· (have hc : w'.cell? ⟨w.heap.size, 2, none⟩ = some (.int .i64 p) := (HP4.out.below (below_undrew hR)).cell 2; go_simp; first | done | with_reducible rfl)); (· (simp only [Act.put, List.setIfInBounds_toArray, List.set_cons_zero, List.set_cons_succ]; first | done | rfl)))
                    (refine' Sq.det (E := _) (b := _) (by rfl) (by rfl) (by rfl) (fun w' hR hf => ?_) ?_ ?_; rotate_left 2; (· (have hz := HPZ.out; have hc := HQ1.out; have hw0 : IntKind.i64.wrap 0 = 0 := (by kernel_rfl); go_simp; first | done | with_reducible rfl)); (· (simp only [Act.put, List.setIfInBounds_toArray, List.set_cons_zero, List.set_cons_succ]; first | done | rfl)))
                    (refine' Sq.det (E := _) (b := _) (by rfl) (by rfl) (by rfl) (fun w' hR hf => ?_) ?_ ?_; rotate_left 2; (· (go_simp; first | done | with_reducible rfl)); (· (simp only [Act.put, List.setIfInBounds_toArray, List.set_cons_zero, List.set_cons_succ]; first | done | rfl)))
                    (refine' Sq.det (E := _) (b := _) (by rfl) (by rfl) (by rfl) (fun w' hR hf => ?_) ?_ ?_; rotate_left 2; (· (have hc : w'.cell? ⟨w.heap.size, 2, none⟩ = some (.int .i64 p) := (HP4.out.below (below_undrew hR)).cell 2; go_simp; first | done | with_reducible rfl)); (· (simp only [Act.put, List.setIfInBounds_toArray, List.set_cons_zero, List.set_cons_succ]; first | done | rfl)))
                    (refine' Sq.det (E := _) (b := _) (by rfl) (by rfl) (by rfl) (fun w' hR hf => ?_) ?_ ?_; rotate_left 2; (· (have hc := HQ2.out; have hw0 : IntKind.i64.wrap 0 = 0 := (by kernel_rfl); go_simp; first | done | with_reducible rfl)); (· (simp only [Act.put, List.setIfInBounds_toArray, List.set_cons_zero, List.set_cons_succ]; first | done | rfl)))
                    (refine' Sq.det (E := _) (b := _) (by rfl) (by rfl) (by rfl) (fun w' hR hf => ?_) ?_ ?_; rotate_left 2; (· (go_simp; first | done | with_reducible rfl)); (· (simp only [Act.put, List.setIfInBounds_toArray, List.set_cons_zero, List.set_cons_succ]; first | done | rfl)))
                    (refine' Sq.det (E := _) (b := _) (by rfl) (by rfl) (by rfl) (fun w' hR hf => ?_) ?_ ?_; rotate_left 2; (· (have hc : w'.cell? ⟨w.heap.size, 3, none⟩ = some (.slice (some ⟨g, off, none⟩) ws.length cap) := (HP4.out.below (below_undrew hR)).cell 3; go_simp; first | done | with_reducible rfl)); (· (simp only [Act.put, List.setIfInBounds_toArray, List.set_cons_zero, List.set_cons_succ]; first | done | rfl)))
                    iterate 3 (refine' Sq.det (E := _) (b := _) (by rfl) (by rfl) (by rfl) (fun w' hR hf => ?_) ?_ ?_; rotate_left 2; (· (go_simp; first | done | with_reducible rfl)); (· (simp only [Act.put, List.setIfInBounds_toArray, List.set_cons_zero, List.set_cons_succ]; first | done | rfl)))
                    (refine' Sq.det (E := _) (b := _) (by rfl) (by rfl) (by rfl) (fun w' hR hf => ?_) ?_ ?_; rotate_left 2; (· (have hc : w'.cell? ⟨g, off + k * 2, none⟩ = some (.int .i64 lo) := ((below_undrew hR).cell (p := ⟨g, _, none⟩) HCL.out.1).trans HCL.out.2; go_simp; first | done | with_reducible rfl)); (· (simp only [Act.put, List.setIfInBounds_toArray, List.set_cons_zero, List.set_cons_succ]; first | done | rfl)))
                    (refine' Sq.det (E := _) (b := _) (by rfl) (by rfl) (by rfl) (fun w' hR hf => ?_) ?_ ?_; rotate_left 2; (· (have hc := HQ3.out; go_simp; first | done | with_reducible rfl)); (· (simp only [Act.put, List.setIfInBounds_toArray, List.set_cons_zero, List.set_cons_succ]; first | done | rfl)))
                    (refine' Sq.det (E := _) (b := _) (by rfl) (by rfl) (by rfl) (fun w' hR hf => ?_) ?_ ?_; rotate_left 2; (· (go_simp; first | done | with_reducible rfl)); (· (simp only [Act.put, List.setIfInBounds_toArray, List.set_cons_zero, List.set_cons_succ]; first | done | rfl)))
                    refine Sq.done fun y hR _ => ?_
                    have HBR2 : Hid (Below y1.heap.size y1 y) := Lib.hid (HBR.out.trans' (below_undrew hR))
                    have hc2 : y.cell? ⟨w.heap.size, 2, none⟩ = some (.int .i64 p) := (HP4.out.below (below_undrew hR)).cell 2
                    clear hR
                    go_wp2
                    go_roundw
                    case rel => exact ⟨k + 1, _, by omega, rfl, by go_num, HD, by omega, by first | exact HBR2 | exact HBR⟩
                    case measure => simp [intOf]; omega
              · exfalso
                omega
          · have hav' : av = lo := by rw [← hav]; unfold atW; rw [if_neg hp, hlo]
            clear hav
            subst hav'
            by_cases c1 : M ≤ av
            · by_cases c2 : best < 0
              · have HD := Lib.hid (show refBest p M av (ws.drop (k + 1)) = res by rw [hdr, if_pos ⟨c1, .inl c2⟩])
                clear hdr
                go_wp2
                go_roundw
                case rel => exact ⟨k + 1, _, by omega, rfl, by go_num, HD, by omega, by first | exact HBR2 | exact HBR⟩
                case measure => simp [intOf]; omega
              · by_cases c3 : av < best
                · have HD := Lib.hid (show refBest p M av (ws.drop (k + 1)) = res by rw [hdr, if_pos ⟨c1, .inr c3⟩])
                  clear hdr
                  go_wp2
                  go_roundw
                  case rel => exact ⟨k + 1, _, by omega, rfl, by go_num, HD, by omega, by first | exact HBR2 | exact HBR⟩
                  case measure => simp [intOf]; omega
                · have HD := Lib.hid (show refBest p M best (ws.drop (k + 1)) = res by rw [hdr, if_neg (by omega)])
                  clear hdr
                  go_wp2
                  go_roundw
                  case rel => exact ⟨k + 1, _, by omega, rfl, by go_num, HD, by omega, by first | exact HBR2 | exact HBR⟩
                  case measure => simp [intOf]; omega
            · have HD := Lib.hid (show refBest p M best (ws.drop (k + 1)) = res by rw [hdr, if_neg (by omega)])
              clear hdr
              go_wp2
              go_roundw
              case rel => exact ⟨k + 1, _, by omega, rfl, by go_num, HD, by omega, by first | exact HBR2 | exact HBR⟩
              case measure => simp [intOf]; omega
        · have hrb := HRB.out
          rw [List.drop_of_length_le (by omega)] at hrb
          have HRB2 : Hid (best = res) := Lib.hid hrb
          clear hrb
          go_wp2
          go_ret
          exact ⟨by rw [← HRB2.out]; rfl, HB4.out⟩
    · have HE : Hid (res = M) := Lib.hid (by rw [HRES.out]; simp)
      go_enter Try.func38, Try.ntmps38
      go_wp2_with (first
        | ((with_reducible refine at_dst 8 ?_); (refine wpList_load_cells rfl 24 _ rfl w.heap.size 0 [.int .i64 r, .int .i64 d, .int .i64 p, .slice A ws.length cap] rfl _ Try.underlying24 rfl info24' (fun j u hu => ?_) ?_; (rw [Nat.zero_add, HP.out.cell, List.getElem?_toArray]; exact hu)))
        | (go_at_call 32; (refine (refcheck_any ⟨r, d, p, ws⟩ g A cap _ (HR.out.below HB.out) hl).mono ?_; rintro e y0 ⟨he, hb1⟩; rw [HK.out] at he; subst he; have HB1 := Lib.hid (HB.out.trans' hb1); have HP1 := Lib.hid (HP.out.below hb1); clear hb1))
        | ((with_reducible refine at_dst 17 ?_); (refine wpList_load_cells rfl 24 _ rfl w.heap.size 0 [.int .i64 r, .int .i64 d, .int .i64 p, .slice A ws.length cap] rfl _ Try.underlying24 rfl info24' (fun j u hu => ?_) ?_; (rw [Nat.zero_add, HP1.out.cell, List.getElem?_toArray]; exact hu)))
        | (go_at_call 35; (refine (refcon_walk r d p _ _ ws g cap A _ (HR.out.below HB1.out) hl HCB.out).mono ?_; rintro e y1 ⟨he, hb1⟩; subst he; have HB3 := Lib.hid (HB1.out.trans' hb1); have HP3 := Lib.hid (HP1.out.below hb1); clear hb1))
        | fail)
      go_ret
      exact ⟨by rw [HE.out]; rfl, HB3.out⟩
  · have HCB := Lib.hid hcb
    have HRES := Lib.hid hres
    clear hM hcb hres
    cases cb
    · have HE : Hid (res = refBest p 0 (-1) ws) := Lib.hid (by rw [HRES.out]; simp)
      go_enter Try.func38, Try.ntmps38
      go_wp2_with (first
        | ((with_reducible refine at_dst 8 ?_); (refine wpList_load_cells rfl 24 _ rfl w.heap.size 0 [.int .i64 r, .int .i64 d, .int .i64 p, .slice A ws.length cap] rfl _ Try.underlying24 rfl info24' (fun j u hu => ?_) ?_; (rw [Nat.zero_add, HP.out.cell, List.getElem?_toArray]; exact hu)))
        | (go_at_call 32; (refine (refcheck_any ⟨r, d, p, ws⟩ g A cap _ (HR.out.below HB.out) hl).mono ?_; rintro e y0 ⟨he, hb1⟩; rw [HK.out] at he; subst he; have HB1 := Lib.hid (HB.out.trans' hb1); have HP1 := Lib.hid (HP.out.below hb1); clear hb1))
        | ((with_reducible refine at_dst 17 ?_); (refine wpList_load_cells rfl 24 _ rfl w.heap.size 0 [.int .i64 r, .int .i64 d, .int .i64 p, .slice A ws.length cap] rfl _ Try.underlying24 rfl info24' (fun j u hu => ?_) ?_; (rw [Nat.zero_add, HP1.out.cell, List.getElem?_toArray]; exact hu)))
        | (go_at_call 35; (refine (refcon_walk r d p _ _ ws g cap A _ (HR.out.below HB1.out) hl HCB.out).mono ?_; rintro e y1 ⟨he, hb1⟩; subst he; have HB3 := Lib.hid (HB1.out.trans' hb1); have HP3 := Lib.hid (HP1.out.below hb1); clear hb1))
        | fail)
      go_loopw [5, 6] (fun bv iv wr => ∃ (k : Nat) (best : Int), k ≤ ws.length ∧ bv = .int .i64 best ∧ iv = .int .i64 k ∧ Hid (refBest p 0 best (ws.drop k) = res) ∧ (-1 ≤ best ∧ best ≤ 4398046511104) ∧ Hid (Below y1.heap.size y1 wr)) (fun _ iv _ => ws.length - (intOf iv).toNat)
      case atStart => exact ⟨0, -1, Nat.zero_le _, rfl, rfl, Lib.hid HE.out.symm, by omega, Lib.hid (Below.refl _ _)⟩
      case round =>
        obtain ⟨k, best, hk, rfl, rfl, HRB, ⟨hbb0, hbb1⟩, HBR⟩ := hrel
        have HB4 := Lib.hid (HB3.out.trans' HBR.out)
        have HP4 := Lib.hid (HP3.out.below HBR.out)
        have hl32 : ws.length ≤ 32 := (chk_ok HK.out).2.1
        have hc2 : wr.cell? ⟨w.heap.size, 2, none⟩ = some (.int .i64 p) := HP4.out.cell 2
        have hc3 : wr.cell? ⟨w.heap.size, 3, none⟩ = some (.slice A ws.length cap) := HP4.out.cell 3
        by_cases hlt : k < ws.length
        · obtain ⟨hg, off, rfl, hc⟩ := (HR.out.below HB4.out).elem winc_len hlt rfl
          have hdr := refBest_drop (p := p) (m := 0) (b := best) hlt
          rw [HRB.out] at hdr
          have hab := atW_bd (c := ⟨r, d, p, ws⟩) (m := 0) HK.out (by omega) (x := ws[k]) (List.getElem_mem hlt)
          have hall := chk_all HK.out ws[k] (List.getElem_mem hlt)
          have hper := chk_per HK.out
          simp only at hab hper
          obtain ⟨lo, hlo⟩ : ∃ lo, ws[k].lo = lo := ⟨_, rfl⟩
          have hcl : wr.cell? ⟨g, off + k * 2, none⟩ = some (.int .i64 lo) := by have := hc 0 (.int .i64 lo) (by rw [← hlo]; rfl); simpa using this
          have HCL := Lib.hid (And.intro hg hcl)
          rw [hlo] at hab hall
          obtain ⟨av, hav⟩ : ∃ av, atW p 0 ws[k] = av := ⟨_, rfl⟩
          rw [hav] at hdr
          obtain ⟨hab0, hab1⟩ := hab
          have hl0 := hall.1
          have hl1 : lo ≤ 10000000 := by omega
          have hp1 := hper.2
          clear hc hall hg
          by_cases hp : 0 < p
          · obtain ⟨a0, ha1⟩ : ∃ a, lo = a := ⟨_, rfl⟩
            have ha0 : 0 / p * p + lo = a0 := by rw [← ha1]; simp
            have hdv0 : True := trivial
            have hdv1 : True := trivial
            have hdp : True := trivial
            have hdp0 : True := trivial
            rw [ha0] at hab0 hab1
            have HPZ : Hid (¬ p = 0) := Lib.hid (by omega)
            have HQ1 : Hid (IntKind.i64.wrap ((0 : Int).tdiv p) = 0) := Lib.hid (by simp; rfl)
            have HQ2 : Hid (IntKind.i64.wrap (0 * p) = 0) := Lib.hid (by simp; rfl)
            have HQ3 : Hid (IntKind.i64.wrap lo = a0) := Lib.hid (by rw [IntWalk.i64_in _ (by omega), ha1])
            by_cases hl : a0 < 0
            · exfalso
              omega
            · have hav' : av = a0 := by rw [← hav]; unfold atW; rw [if_pos hp, hlo, ha0, if_neg hl]
              clear hav hdv0 hdv1 hdp hdp0 ha0
              subst hav'
              by_cases c1 : 0 ≤ av
              · by_cases c2 : best < 0
                · have HD := Lib.hid (show refBest p 0 av (ws.drop (k + 1)) = res by rw [hdr, if_pos ⟨c1, .inl c2⟩])
                  clear hdr
                  go_wp2
                  clear hc2 hc3 hcl
                  refine wp_region_seq (nt := 72) (by kernel_rfl) [0,1,2,3,4,5,6,7,8,9,10,11,12,13,14] [] Rb Rb.refl Rb.trans [] (by kernel_rfl) (by simp) rfl (by kernel_rfl) (by simp) trivial ?_
                  iterate 2 (refine' Sq.det (E := _) (b := _) (by rfl) (by rfl) (by rfl) (fun w' hR hf => ?_) ?_ ?_; rotate_left 2; (· (go_simp; first | done | with_reducible rfl)); (· (simp only [Act.put, List.setIfInBounds_toArray, List.set_cons_zero, List.set_cons_succ]; first | done | rfl)))
                  (refine' Sq.det (E := _) (b := _) (by rfl) (by rfl) (by rfl) (fun w' hR hf => ?_) ?_ ?_; rotate_left 2; (· (have hc : w'.cell? ⟨w.heap.size, 2, none⟩ = some (.int .i64 p) := (HP4.out.below (below_undrew hR)).cell 2; go_simp; first | done | with_reducible rfl)); (· (simp only [Act.put, List.setIfInBounds_toArray, List.set_cons_zero, List.set_cons_succ]; first | done | rfl)))
                  (refine' Sq.det (E := _) (b := _) (by rfl) (by rfl) (by rfl) (fun w' hR hf => ?_) ?_ ?_; rotate_left 2; (· (have hz := HPZ.out; have hc := HQ1.out; have hw0 : IntKind.i64.wrap 0 = 0 := (by kernel_rfl); go_simp; first | done | with_reducible rfl)); (· (simp only [Act.put, List.setIfInBounds_toArray, List.set_cons_zero, List.set_cons_succ]; first | done | rfl)))
                  (refine' Sq.det (E := _) (b := _) (by rfl) (by rfl) (by rfl) (fun w' hR hf => ?_) ?_ ?_; rotate_left 2; (· (go_simp; first | done | with_reducible rfl)); (· (simp only [Act.put, List.setIfInBounds_toArray, List.set_cons_zero, List.set_cons_succ]; first | done | rfl)))
                  (refine' Sq.det (E := _) (b := _) (by rfl) (by rfl) (by rfl) (fun w' hR hf => ?_) ?_ ?_; rotate_left 2; (· (have hc : w'.cell? ⟨w.heap.size, 2, none⟩ = some (.int .i64 p) := (HP4.out.below (below_undrew hR)).cell 2; go_simp; first | done | with_reducible rfl)); (· (simp only [Act.put, List.setIfInBounds_toArray, List.set_cons_zero, List.set_cons_succ]; first | done | rfl)))
                  (refine' Sq.det (E := _) (b := _) (by rfl) (by rfl) (by rfl) (fun w' hR hf => ?_) ?_ ?_; rotate_left 2; (· (have hc := HQ2.out; have hw0 : IntKind.i64.wrap 0 = 0 := (by kernel_rfl); go_simp; first | done | with_reducible rfl)); (· (simp only [Act.put, List.setIfInBounds_toArray, List.set_cons_zero, List.set_cons_succ]; first | done | rfl)))
                  (refine' Sq.det (E := _) (b := _) (by rfl) (by rfl) (by rfl) (fun w' hR hf => ?_) ?_ ?_; rotate_left 2; (· (go_simp; first | done | with_reducible rfl)); (· (simp only [Act.put, List.setIfInBounds_toArray, List.set_cons_zero, List.set_cons_succ]; first | done | rfl)))
                  (refine' Sq.det (E := _) (b := _) (by rfl) (by rfl) (by rfl) (fun w' hR hf => ?_) ?_ ?_; rotate_left 2; (· (have hc : w'.cell? ⟨w.heap.size, 3, none⟩ = some (.slice (some ⟨g, off, none⟩) ws.length cap) := (HP4.out.below (below_undrew hR)).cell 3; go_simp; first | done | with_reducible rfl)); (· (simp only [Act.put, List.setIfInBounds_toArray, List.set_cons_zero, List.set_cons_succ]; first | done | rfl)))
                  iterate 3 (refine' Sq.det (E := _) (b := _) (by rfl) (by rfl) (by rfl) (fun w' hR hf => ?_) ?_ ?_; rotate_left 2; (· (go_simp; first | done | with_reducible rfl)); (· (simp only [Act.put, List.setIfInBounds_toArray, List.set_cons_zero, List.set_cons_succ]; first | done | rfl)))
                  (refine' Sq.det (E := _) (b := _) (by rfl) (by rfl) (by rfl) (fun w' hR hf => ?_) ?_ ?_; rotate_left 2; (· (have hc : w'.cell? ⟨g, off + k * 2, none⟩ = some (.int .i64 lo) := ((below_undrew hR).cell (p := ⟨g, _, none⟩) HCL.out.1).trans HCL.out.2; go_simp; first | done | with_reducible rfl)); (· (simp only [Act.put, List.setIfInBounds_toArray, List.set_cons_zero, List.set_cons_succ]; first | done | rfl)))
                  (refine' Sq.det (E := _) (b := _) (by rfl) (by rfl) (by rfl) (fun w' hR hf => ?_) ?_ ?_; rotate_left 2; (· (have hc := HQ3.out; go_simp; first | done | with_reducible rfl)); (· (simp only [Act.put, List.setIfInBounds_toArray, List.set_cons_zero, List.set_cons_succ]; first | done | rfl)))
                  (refine' Sq.det (E := _) (b := _) (by rfl) (by rfl) (by rfl) (fun w' hR hf => ?_) ?_ ?_; rotate_left 2; (· (go_simp; first | done | with_reducible rfl)); (· (simp only [Act.put, List.setIfInBounds_toArray, List.set_cons_zero, List.set_cons_succ]; first | done | rfl)))
                  refine Sq.done fun y hR _ => ?_
                  have HBR2 : Hid (Below y1.heap.size y1 y) := Lib.hid (HBR.out.trans' (below_undrew hR))
                  have hc2 : y.cell? ⟨w.heap.size, 2, none⟩ = some (.int .i64 p) := (HP4.out.below (below_undrew hR)).cell 2
                  clear hR
                  go_wp2
                  go_roundw
                  case rel => exact ⟨k + 1, _, by omega, rfl, by go_num, HD, by omega, by first | exact HBR2 | exact HBR⟩
                  case measure => simp [intOf]; omega
                · by_cases c3 : av < best
                  · have HD := Lib.hid (show refBest p 0 av (ws.drop (k + 1)) = res by rw [hdr, if_pos ⟨c1, .inr c3⟩])
                    clear hdr
                    go_wp2
                    clear hc2 hc3 hcl
                    refine wp_region_seq (nt := 72) (by kernel_rfl) [0,1,2,3,4,5,6,7,8,9,10,11,12,13,14] [] Rb Rb.refl Rb.trans [] (by kernel_rfl) (by simp) rfl (by kernel_rfl) (by simp) trivial ?_
                    iterate 2 (refine' Sq.det (E := _) (b := _) (by rfl) (by rfl) (by rfl) (fun w' hR hf => ?_) ?_ ?_; rotate_left 2; (· (go_simp; first | done | with_reducible rfl)); (· (simp only [Act.put, List.setIfInBounds_toArray, List.set_cons_zero, List.set_cons_succ]; first | done | rfl)))
                    (refine' Sq.det (E := _) (b := _) (by rfl) (by rfl) (by rfl) (fun w' hR hf => ?_) ?_ ?_; rotate_left 2; (· (have hc : w'.cell? ⟨w.heap.size, 2, none⟩ = some (.int .i64 p) := (HP4.out.below (below_undrew hR)).cell 2; go_simp; first | done | with_reducible rfl)); (· (simp only [Act.put, List.setIfInBounds_toArray, List.set_cons_zero, List.set_cons_succ]; first | done | rfl)))
                    (refine' Sq.det (E := _) (b := _) (by rfl) (by rfl) (by rfl) (fun w' hR hf => ?_) ?_ ?_; rotate_left 2; (· (have hz := HPZ.out; have hc := HQ1.out; have hw0 : IntKind.i64.wrap 0 = 0 := (by kernel_rfl); go_simp; first | done | with_reducible rfl)); (· (simp only [Act.put, List.setIfInBounds_toArray, List.set_cons_zero, List.set_cons_succ]; first | done | rfl)))
                    (refine' Sq.det (E := _) (b := _) (by rfl) (by rfl) (by rfl) (fun w' hR hf => ?_) ?_ ?_; rotate_left 2; (· (go_simp; first | done | with_reducible rfl)); (· (simp only [Act.put, List.setIfInBounds_toArray, List.set_cons_zero, List.set_cons_succ]; first | done | rfl)))
                    (refine' Sq.det (E := _) (b := _) (by rfl) (by rfl) (by rfl) (fun w' hR hf => ?_) ?_ ?_; rotate_left 2; (· (have hc : w'.cell? ⟨w.heap.size, 2, none⟩ = some (.int .i64 p) := (HP4.out.below (below_undrew hR)).cell 2; go_simp; first | done | with_reducible rfl)); (· (simp only [Act.put, List.setIfInBounds_toArray, List.set_cons_zero, List.set_cons_succ]; first | done | rfl)))
                    (refine' Sq.det (E := _) (b := _) (by rfl) (by rfl) (by rfl) (fun w' hR hf => ?_) ?_ ?_; rotate_left 2; (· (have hc := HQ2.out; have hw0 : IntKind.i64.wrap 0 = 0 := (by kernel_rfl); go_simp; first | done | with_reducible rfl)); (· (simp only [Act.put, List.setIfInBounds_toArray, List.set_cons_zero, List.set_cons_succ]; first | done | rfl)))
                    (refine' Sq.det (E := _) (b := _) (by rfl) (by rfl) (by rfl) (fun w' hR hf => ?_) ?_ ?_; rotate_left 2; (· (go_simp; first | done | with_reducible rfl)); (· (simp only [Act.put, List.setIfInBounds_toArray, List.set_cons_zero, List.set_cons_succ]; first | done | rfl)))
                    (refine' Sq.det (E := _) (b := _) (by rfl) (by rfl) (by rfl) (fun w' hR hf => ?_) ?_ ?_; rotate_left 2; (· (have hc : w'.cell? ⟨w.heap.size, 3, none⟩ = some (.slice (some ⟨g, off, none⟩) ws.length cap) := (HP4.out.below (below_undrew hR)).cell 3; go_simp; first | done | with_reducible rfl)); (· (simp only [Act.put, List.setIfInBounds_toArray, List.set_cons_zero, List.set_cons_succ]; first | done | rfl)))
                    iterate 3 (refine' Sq.det (E := _) (b := _) (by rfl) (by rfl) (by rfl) (fun w' hR hf => ?_) ?_ ?_; rotate_left 2; (· (go_simp; first | done | with_reducible rfl)); (· (simp only [Act.put, List.setIfInBounds_toArray, List.set_cons_zero, List.set_cons_succ]; first | done | rfl)))
                    (refine' Sq.det (E := _) (b := _) (by rfl) (by rfl) (by rfl) (fun w' hR hf => ?_) ?_ ?_; rotate_left 2; (· (have hc : w'.cell? ⟨g, off + k * 2, none⟩ = some (.int .i64 lo) := ((below_undrew hR).cell (p := ⟨g, _, none⟩) HCL.out.1).trans HCL.out.2; go_simp; first | done | with_reducible rfl)); (· (simp only [Act.put, List.setIfInBounds_toArray, List.set_cons_zero, List.set_cons_succ]; first | done | rfl)))
                    (refine' Sq.det (E := _) (b := _) (by rfl) (by rfl) (by rfl) (fun w' hR hf => ?_) ?_ ?_; rotate_left 2; (· (have hc := HQ3.out; go_simp; first | done | with_reducible rfl)); (· (simp only [Act.put, List.setIfInBounds_toArray, List.set_cons_zero, List.set_cons_succ]; first | done | rfl)))
                    (refine' Sq.det (E := _) (b := _) (by rfl) (by rfl) (by rfl) (fun w' hR hf => ?_) ?_ ?_; rotate_left 2; (· (go_simp; first | done | with_reducible rfl)); (· (simp only [Act.put, List.setIfInBounds_toArray, List.set_cons_zero, List.set_cons_succ]; first | done | rfl)))
                    refine Sq.done fun y hR _ => ?_
                    have HBR2 : Hid (Below y1.heap.size y1 y) := Lib.hid (HBR.out.trans' (below_undrew hR))
                    have hc2 : y.cell? ⟨w.heap.size, 2, none⟩ = some (.int .i64 p) := (HP4.out.below (below_undrew hR)).cell 2
                    clear hR
                    go_wp2
                    go_roundw
                    case rel => exact ⟨k + 1, _, by omega, rfl, by go_num, HD, by omega, by first | exact HBR2 | exact HBR⟩
                    case measure => simp [intOf]; omega
                  · have HD := Lib.hid (show refBest p 0 best (ws.drop (k + 1)) = res by rw [hdr, if_neg (by omega)])
                    clear hdr
                    go_wp2
                    clear hc2 hc3 hcl
                    refine wp_region_seq (nt := 72) (by kernel_rfl) [0,1,2,3,4,5,6,7,8,9,10,11,12,13,14] [] Rb Rb.refl Rb.trans [] (by kernel_rfl) (by simp) rfl (by kernel_rfl) (by simp) trivial ?_
                    iterate 2 (refine' Sq.det (E := _) (b := _) (by rfl) (by rfl) (by rfl) (fun w' hR hf => ?_) ?_ ?_; rotate_left 2; (· (go_simp; first | done | with_reducible rfl)); (· (simp only [Act.put, List.setIfInBounds_toArray, List.set_cons_zero, List.set_cons_succ]; first | done | rfl)))
                    (refine' Sq.det (E := _) (b := _) (by rfl) (by rfl) (by rfl) (fun w' hR hf => ?_) ?_ ?_; rotate_left 2; (· (have hc : w'.cell? ⟨w.heap.size, 2, none⟩ = some (.int .i64 p) := (HP4.out.below (below_undrew hR)).cell 2; go_simp; first | done | with_reducible rfl)); (· (simp only [Act.put, List.setIfInBounds_toArray, List.set_cons_zero, List.set_cons_succ]; first | done | rfl)))
                    (refine' Sq.det (E := _) (b := _) (by rfl) (by rfl) (by rfl) (fun w' hR hf => ?_) ?_ ?_; rotate_left 2; (· (have hz := HPZ.out; have hc := HQ1.out; have hw0 : IntKind.i64.wrap 0 = 0 := (by kernel_rfl); go_simp; first | done | with_reducible rfl)); (· (simp only [Act.put, List.setIfInBounds_toArray, List.set_cons_zero, List.set_cons_succ]; first | done | rfl)))
                    (refine' Sq.det (E := _) (b := _) (by rfl) (by rfl) (by rfl) (fun w' hR hf => ?_) ?_ ?_; rotate_left 2; (· (go_simp; first | done | with_reducible rfl)); (· (simp only [Act.put, List.setIfInBounds_toArray, List.set_cons_zero, List.set_cons_succ]; first | done | rfl)))
                    (refine' Sq.det (E := _) (b := _) (by rfl) (by rfl) (by rfl) (fun w' hR hf => ?_) ?_ ?_; rotate_left 2; (· (have hc : w'.cell? ⟨w.heap.size, 2, none⟩ = some (.int .i64 p) := (HP4.out.below (below_undrew hR)).cell 2; go_simp; first | done | with_reducible rfl)); (· (simp only [Act.put, List.setIfInBounds_toArray, List.set_cons_zero, List.set_cons_succ]; first | done | rfl)))
                    (refine' Sq.det (E := _) (b := _) (by rfl) (by rfl) (by rfl) (fun w' hR hf => ?_) ?_ ?_; rotate_left 2; (· (have hc := HQ2.out; have hw0 : IntKind.i64.wrap 0 = 0 := (by kernel_rfl); go_simp; first | done | with_reducible rfl)); (· (simp only [Act.put, List.setIfInBounds_toArray, List.set_cons_zero, List.set_cons_succ]; first | done | rfl)))
                    (refine' Sq.det (E := _) (b := _) (by rfl) (by rfl) (by rfl) (fun w' hR hf => ?_) ?_ ?_; rotate_left 2; (· (go_simp; first | done | with_reducible rfl)); (· (simp only [Act.put, List.setIfInBounds_toArray, List.set_cons_zero, List.set_cons_succ]; first | done | rfl)))
                    (refine' Sq.det (E := _) (b := _) (by rfl) (by rfl) (by rfl) (fun w' hR hf => ?_) ?_ ?_; rotate_left 2; (· (have hc : w'.cell? ⟨w.heap.size, 3, none⟩ = some (.slice (some ⟨g, off, none⟩) ws.length cap) := (HP4.out.below (below_undrew hR)).cell 3; go_simp; first | done | with_reducible rfl)); (· (simp only [Act.put, List.setIfInBounds_toArray, List.set_cons_zero, List.set_cons_succ]; first | done | rfl)))
                    iterate 3 (refine' Sq.det (E := _) (b := _) (by rfl) (by rfl) (by rfl) (fun w' hR hf => ?_) ?_ ?_; rotate_left 2; (· (go_simp; first | done | with_reducible rfl)); (· (simp only [Act.put, List.setIfInBounds_toArray, List.set_cons_zero, List.set_cons_succ]; first | done | rfl)))
                    (refine' Sq.det (E := _) (b := _) (by rfl) (by rfl) (by rfl) (fun w' hR hf => ?_) ?_ ?_; rotate_left 2; (· (have hc : w'.cell? ⟨g, off + k * 2, none⟩ = some (.int .i64 lo) := ((below_undrew hR).cell (p := ⟨g, _, none⟩) HCL.out.1).trans HCL.out.2; go_simp; first | done | with_reducible rfl)); (· (simp only [Act.put, List.setIfInBounds_toArray, List.set_cons_zero, List.set_cons_succ]; first | done | rfl)))
                    (refine' Sq.det (E := _) (b := _) (by rfl) (by rfl) (by rfl) (fun w' hR hf => ?_) ?_ ?_; rotate_left 2; (· (have hc := HQ3.out; go_simp; first | done | with_reducible rfl)); (· (simp only [Act.put, List.setIfInBounds_toArray, List.set_cons_zero, List.set_cons_succ]; first | done | rfl)))
                    (refine' Sq.det (E := _) (b := _) (by rfl) (by rfl) (by rfl) (fun w' hR hf => ?_) ?_ ?_; rotate_left 2; (· (go_simp; first | done | with_reducible rfl)); (· (simp only [Act.put, List.setIfInBounds_toArray, List.set_cons_zero, List.set_cons_succ]; first | done | rfl)))
                    refine Sq.done fun y hR _ => ?_
                    have HBR2 : Hid (Below y1.heap.size y1 y) := Lib.hid (HBR.out.trans' (below_undrew hR))
                    have hc2 : y.cell? ⟨w.heap.size, 2, none⟩ = some (.int .i64 p) := (HP4.out.below (below_undrew hR)).cell 2
                    clear hR
                    go_wp2
                    go_roundw
                    case rel => exact ⟨k + 1, _, by omega, rfl, by go_num, HD, by omega, by first | exact HBR2 | exact HBR⟩
                    case measure => simp [intOf]; omega
              · exfalso
                omega
          · have hav' : av = lo := by rw [← hav]; unfold atW; rw [if_neg hp, hlo]
            clear hav
            subst hav'
            by_cases c1 : 0 ≤ av
            · by_cases c2 : best < 0
              · have HD := Lib.hid (show refBest p 0 av (ws.drop (k + 1)) = res by rw [hdr, if_pos ⟨c1, .inl c2⟩])
                clear hdr
                go_wp2
                go_roundw
                case rel => exact ⟨k + 1, _, by omega, rfl, by go_num, HD, by omega, by first | exact HBR2 | exact HBR⟩
                case measure => simp [intOf]; omega
              · by_cases c3 : av < best
                · have HD := Lib.hid (show refBest p 0 av (ws.drop (k + 1)) = res by rw [hdr, if_pos ⟨c1, .inr c3⟩])
                  clear hdr
                  go_wp2
                  go_roundw
                  case rel => exact ⟨k + 1, _, by omega, rfl, by go_num, HD, by omega, by first | exact HBR2 | exact HBR⟩
                  case measure => simp [intOf]; omega
                · have HD := Lib.hid (show refBest p 0 best (ws.drop (k + 1)) = res by rw [hdr, if_neg (by omega)])
                  clear hdr
                  go_wp2
                  go_roundw
                  case rel => exact ⟨k + 1, _, by omega, rfl, by go_num, HD, by omega, by first | exact HBR2 | exact HBR⟩
                  case measure => simp [intOf]; omega
            · exfalso
              omega
        · have hrb := HRB.out
          rw [List.drop_of_length_le (by omega)] at hrb
          have HRB2 : Hid (best = res) := Lib.hid hrb
          clear hrb
          go_wp2
          go_ret
          exact ⟨by rw [← HRB2.out]; rfl, HB4.out⟩
    · have HE : Hid (res = 0) := Lib.hid (by rw [HRES.out]; simp)
      go_enter Try.func38, Try.ntmps38
      go_wp2_with (first
        | ((with_reducible refine at_dst 8 ?_); (refine wpList_load_cells rfl 24 _ rfl w.heap.size 0 [.int .i64 r, .int .i64 d, .int .i64 p, .slice A ws.length cap] rfl _ Try.underlying24 rfl info24' (fun j u hu => ?_) ?_; (rw [Nat.zero_add, HP.out.cell, List.getElem?_toArray]; exact hu)))
        | (go_at_call 32; (refine (refcheck_any ⟨r, d, p, ws⟩ g A cap _ (HR.out.below HB.out) hl).mono ?_; rintro e y0 ⟨he, hb1⟩; rw [HK.out] at he; subst he; have HB1 := Lib.hid (HB.out.trans' hb1); have HP1 := Lib.hid (HP.out.below hb1); clear hb1))
        | ((with_reducible refine at_dst 17 ?_); (refine wpList_load_cells rfl 24 _ rfl w.heap.size 0 [.int .i64 r, .int .i64 d, .int .i64 p, .slice A ws.length cap] rfl _ Try.underlying24 rfl info24' (fun j u hu => ?_) ?_; (rw [Nat.zero_add, HP1.out.cell, List.getElem?_toArray]; exact hu)))
        | (go_at_call 35; (refine (refcon_walk r d p _ _ ws g cap A _ (HR.out.below HB1.out) hl HCB.out).mono ?_; rintro e y1 ⟨he, hb1⟩; subst he; have HB3 := Lib.hid (HB1.out.trans' hb1); have HP3 := Lib.hid (HP1.out.below hb1); clear hb1))
        | fail)
      go_ret
      exact ⟨by rw [HE.out]; rfl, HB3.out⟩
theorem refnext_any (c : Cfg) (m : Int) (g cap : Nat) (A : Option Addr) (w : World) (hr : Rd w g 2 A c.ws.length (c.ws.flatMap winc)) (hl : c.ws.length ≤ maxLen) :
    Calls Try.prog 38 #[.agg (cfgc c A cap).toArray, .int .i64 m] w fun e w' => e = .returned (.int .i64 (refNextC c m)) ∧ Below w.heap.size w w' := by
  by_cases hx : chkC c ≠ 0 ∨ 1099511627776 < m
  · have e : refNextC c m = -1 := by unfold refNextC; rw [if_pos hx]
    rw [e]
    exact refNext_bad c m g cap A w hr hl hx
  · have hok : chkC c = 0 := by simpa using fun h => hx (.inl h)
    have hm : m ≤ 1099511627776 := by simpa using fun h => hx (.inr h)
    obtain ⟨r, d, p, ws⟩ := c
    have hcm : conC ⟨r, d, p, ws⟩ (max m 0) = conM ⟨r, d, p, ws⟩ (max m 0) := conC_any hok (by omega)
    refine refNext_walk r d p m (max m 0) ws g cap A w _ _ hr hl hok hm rfl rfl ?_
    unfold refNextC
    rw [if_neg hx, hcm]
theorem next_bd {c : Cfg} {m : Int} (hok : chkC c = 0) (hm0 : 0 ≤ m) (hm1 : m ≤ 1099511627776) : (nextC c m).1 ≤ 2199023255552 := by
  have hb := split_bd (p := c.period) (m := m) (chk_per hok).1 hm0
  have hp := chk_per hok
  have key : ∀ (ws : List Wn), (∀ x ∈ ws, 0 ≤ x.lo ∧ x.lo < x.hi ∧ x.hi ≤ 10000000) → ∀ v, nextW (splitB c.period m) (splitR c.period m) ws = some v → v ≤ 2199023255552 := by
    intro ws
    induction ws with
    | nil => intro _ v hv; cases hv
    | cons x ws ih =>
      intro hx v hv
      unfold nextW at hv
      split at hv
      · injection hv with hv
        have := hx x (by simp)
        omega
      · exact ih (fun y hy => hx y (by simp [hy])) v hv
  unfold nextC
  split
  · rename_i v hv
    exact key c.ws (chk_all hok) v hv
  · split
    · simp
    · rename_i hz
      rw [not_or] at hz
      have h0 : 0 < c.ws.length := by omega
      have hx := chk_all hok c.ws[0] (List.getElem_mem h0)
      have e : c.ws.getD 0 default = c.ws[0] := by simp [h0]
      simp only [e]
      omega
/-- what the law of Next asks, where there is a minute -/
theorem next_law {c : Cfg} {m : Int} (h : 0 ≤ refNextC c m) : chkC c = 0 ∧ m ≤ 1099511627776 ∧ refNextC c m ≤ 2199023255552 ∧ conC c (refNextC c m) = true ∧ ∀ q, max m 0 ≤ q → q < refNextC c m → conC c q = false := by
  have hok : chkC c = 0 ∧ m ≤ 1099511627776 := by
    unfold refNextC at h
    split at h
    · omega
    · omega
  have hn := Next_ref c m
  have e : NextC c m = nextC c (max m 0) := by unfold NextC; rw [if_neg (by omega)]
  rw [e] at hn
  have hk := nextC_ok (m := max m 0) hok.1 (by omega)
  have hb := next_bd (m := max m 0) hok.1 (by omega) (by omega)
  rw [hn] at hk hb
  have h2 := hk.1 (by simpa using h)
  simp only at h2 hb
  rw [show max (refNextC c m) 0 = refNextC c m by omega] at h2 hb
  refine ⟨hok.1, hok.2, hb, ?_, fun q h1 h3 => ?_⟩
  · rw [conC_any hok.1 h]; exact h2.2.1
  · rw [conC_any hok.1 (by omega)]; exact h2.2.2 q h1 h3
end Go.Proofs.Ytnddahajfcmkiaa
