/- Contracts of three comparers of two slices: of offers, of results, of identities. Conditions: at most 100,000 elements. -/
import Derived.Test.YtbcejdmgdgghfaaWi
namespace Go.Proofs.Ytbcejdmgdgghfaa
set_option linter.unusedSimpArgs false
set_option linter.unusedVariables false
set_option linter.unnecessarySimpa false
open Go.RowKit

theorem take_step {α : Type} {l m : List α} {k : Nat} (hl : k < l.length) (hm : k < m.length) (h : l.take k = m.take k) (he : l[k] = m[k]) : l.take (k + 1) = m.take (k + 1) := by
  rw [List.take_succ_eq_append_getElem hl, List.take_succ_eq_append_getElem hm, h, he]
theorem take_all {α : Type} {l m : List α} {k : Nat} (hn : l.length = m.length) (hk : l.length ≤ k) (h : l.take k = m.take k) : l = m := by
  rwa [List.take_of_length_le hk, List.take_of_length_le (hn ▸ hk)] at h
theorem ne_at {α : Type} {l m : List α} {k : Nat} (hl : k < l.length) (hm : k < m.length) (he : l[k] ≠ m[k]) : l ≠ m := fun h => by subst h; exact he rfl

set_option maxHeartbeats 1000000 in
theorem equal42_any (l1 l2 : List Ofr) (g1 c1 g2 c2 : Nat) (A1 A2 : Option Addr) (w : World) (h1 : Rd w g1 34 A1 l1.length (l1.flatMap ofrc)) (h2 : Rd w g2 34 A2 l2.length (l2.flatMap ofrc)) (hl : l1.length ≤ 100000) (hl2 : l2.length ≤ 100000) :
    Calls Try.prog 42 #[.slice A1 l1.length c1, .slice A2 l2.length c2] w fun e w' => e = .returned (.bool (decide (l1 = l2))) ∧ Below w.heap.size w w' := by
  have H1 := Lib.hid h1
  have H2 := Lib.hid h2
  clear h1 h2
  by_cases hn : l1.length = l2.length
  · have HN := Lib.hid hn
    go_enter Try.func42, Try.ntmps42
    go_wp2_with fail
    go_loopw [13] (fun si wr => ∃ k : Nat, k ≤ l1.length ∧ si = .int .i64 k ∧ Hid (l1.take k = l2.take k) ∧ Below w.heap.size w wr) (fun i _ => l1.length - (intOf i).toNat)
    case atStart => exact ⟨0, by omega, rfl, Lib.hid rfl, Below.refl _ _⟩
    case round =>
      obtain ⟨k, hk, rfl, htk, hbw⟩ := hrel
      by_cases hlt : k < l1.length
      · have hlt2 : k < l2.length := by omega
        obtain ⟨hg1, off1, rfl, hc1⟩ := (H1.out.below hbw).elem (f := ofrc) ofrc_len hlt rfl
        obtain ⟨hg2, off2, rfl, hc2⟩ := (H2.out.below hbw).elem (f := ofrc) ofrc_len hlt2 rfl
        have HC1 := Lib.hid hc1
        have HC2 := Lib.hid hc2
        have HB := Lib.hid hbw
        have HG1 := Lib.hid hg1
        have HG2 := Lib.hid hg2
        clear hg1 hg2 hc1 hc2 hbw
        have hq0 := fun w => run_neq_ofr w l1[k] l2[k]
        cases he : decide (l1[k] = l2[k])
        all_goals
          simp only [he, Bool.not_false, Bool.not_true] at hq0
          have HE := Lib.hid he
          have HQ := Lib.hid hq0
          clear he hq0
          go_wp2_with fail
          refine wp_region_seq (nt := 26) (by kernel_rfl) [0,1,2,3,4,5,6,7,8] [] Rb Rb.refl Rb.trans [] (by kernel_rfl) (by simp) rfl rfl (by simp) trivial ?_
          iterate 3 (refine' Sq.det (E := _) (b := _) (by rfl) (by rfl) (by rfl) (fun w' hR hf => ?_) ?_ ?_; rotate_left 2; (· (go_simp; first | done | with_reducible rfl)); (· (simp only [Act.put, List.setIfInBounds_toArray, List.set_cons_zero, List.set_cons_succ]; first | done | rfl)))
          (refine' Sq.det (E := _) (b := _) (by rfl) (by rfl) (by rfl) (fun w' hR hf => ?_) ?_ ?_; rotate_left 2; (· (refine exec_load_cells 81 _ g1 (off1 + k * 34) (ofrc l1[k]) ?_ _ Try.underlying81 rfl (by rw [ofrc_len]; exact size81) (fun j u hu => ?_); (· rfl); exact ((below_undrew hR).cell (p := ⟨g1, _, none⟩) HG1.out).trans (HC1.out j u hu))); (· (simp only [Act.put, List.setIfInBounds_toArray, List.set_cons_zero, List.set_cons_succ]; first | done | rfl)))
          iterate 3 (refine' Sq.det (E := _) (b := _) (by rfl) (by rfl) (by rfl) (fun w' hR hf => ?_) ?_ ?_; rotate_left 2; (· (go_simp; first | done | with_reducible rfl)); (· (simp only [Act.put, List.setIfInBounds_toArray, List.set_cons_zero, List.set_cons_succ]; first | done | rfl)))
          (refine' Sq.det (E := _) (b := _) (by rfl) (by rfl) (by rfl) (fun w' hR hf => ?_) ?_ ?_; rotate_left 2; (· (refine exec_load_cells 81 _ g2 (off2 + k * 34) (ofrc l2[k]) ?_ _ Try.underlying81 rfl (by rw [ofrc_len]; exact size81) (fun j u hu => ?_); (· rfl); exact ((below_undrew hR).cell (p := ⟨g2, _, none⟩) HG2.out).trans (HC2.out j u hu))); (· (simp only [Act.put, List.setIfInBounds_toArray, List.set_cons_zero, List.set_cons_succ]; first | done | rfl)))
          (refine' Sq.det (E := _) (b := _) (by rfl) (by rfl) (by rfl) (fun w' hR hf => ?_) ?_ ?_; rotate_left 2; (· (have hq := HQ.out; go_simp; first | done | with_reducible rfl)); (· (simp only [Act.put, List.setIfInBounds_toArray, List.set_cons_zero, List.set_cons_succ]; first | done | rfl)))
          refine Sq.done fun w2 hR _ => ?_
          have HB2 := Lib.hid (below_undrew hR)
          clear hR
        · go_wp2_with fail
          go_ret
          exact ⟨by rw [decide_eq_false (ne_at hlt hlt2 (of_decide_eq_false HE.out))]; rfl, HB.out.trans (HB2.out.mono HB.out.size)⟩
        · go_wp2_with fail
          go_roundw
          case rel => exact ⟨k + 1, by omega, by go_num, Lib.hid (take_step hlt hlt2 htk.out (of_decide_eq_true HE.out)), HB.out.trans (HB2.out.mono HB.out.size)⟩
          case measure => simp [intOf]; omega
      · have HB := Lib.hid hbw
        have HT := Lib.hid (take_all (k := k) HN.out (by omega) htk.out)
        clear hbw htk
        go_wp2_with fail
        go_ret
        exact ⟨by rw [decide_eq_true HT.out]; rfl, HB.out⟩
  · have HN := Lib.hid hn
    have hne : (l1.length : Int) ≠ (l2.length : Int) := by omega
    clear hn
    go_enter Try.func42, Try.ntmps42
    go_wp2_with fail
    go_ret
    exact ⟨by rw [decide_eq_false (fun h => HN.out (by rw [h]))]; rfl, Below.refl _ _⟩

set_option maxHeartbeats 1000000 in
theorem results_any (l1 l2 : List Res) (g1 c1 g2 c2 : Nat) (A1 A2 : Option Addr) (w : World) (h1 : Rd w g1 33 A1 l1.length (l1.flatMap resc)) (h2 : Rd w g2 33 A2 l2.length (l2.flatMap resc)) (hl : l1.length ≤ 100000) (hl2 : l2.length ≤ 100000) :
    Calls Try.prog 18 #[.slice A1 l1.length c1, .slice A2 l2.length c2] w fun e w' => e = .returned (.bool (decide (l1 = l2))) ∧ Below w.heap.size w w' := by
  have H1 := Lib.hid h1
  have H2 := Lib.hid h2
  clear h1 h2
  by_cases hn : l1.length = l2.length
  · have HN := Lib.hid hn
    go_enter Try.func18, Try.ntmps18
    go_wp2_with fail
    go_loopw [5] (fun si wr => ∃ k : Nat, k ≤ l1.length ∧ si = .int .i64 k ∧ Hid (l1.take k = l2.take k) ∧ Below w.heap.size w wr) (fun i _ => l1.length - (intOf i).toNat)
    case atStart => exact ⟨0, by omega, rfl, Lib.hid rfl, Below.refl _ _⟩
    case round =>
      obtain ⟨k, hk, rfl, htk, hbw⟩ := hrel
      by_cases hlt : k < l1.length
      · have hlt2 : k < l2.length := by omega
        obtain ⟨hg1, off1, rfl, hc1⟩ := (H1.out.below hbw).elem (f := resc) resc_len hlt rfl
        obtain ⟨hg2, off2, rfl, hc2⟩ := (H2.out.below hbw).elem (f := resc) resc_len hlt2 rfl
        have HC1 := Lib.hid hc1
        have HC2 := Lib.hid hc2
        have HB := Lib.hid hbw
        have HG1 := Lib.hid hg1
        have HG2 := Lib.hid hg2
        clear hg1 hg2 hc1 hc2 hbw
        have hq0 := fun w => run_neq_res w l1[k] l2[k]
        cases he : decide (l1[k] = l2[k])
        all_goals
          simp only [he, Bool.not_false, Bool.not_true] at hq0
          have HE := Lib.hid he
          have HQ := Lib.hid hq0
          clear he hq0
          go_wp2_with fail
          refine wp_region_seq (nt := 26) (by kernel_rfl) [0,1,2,3,4,5,6,7,8] [] Rb Rb.refl Rb.trans [] (by kernel_rfl) (by simp) rfl rfl (by simp) trivial ?_
          iterate 3 (refine' Sq.det (E := _) (b := _) (by rfl) (by rfl) (by rfl) (fun w' hR hf => ?_) ?_ ?_; rotate_left 2; (· (go_simp; first | done | with_reducible rfl)); (· (simp only [Act.put, List.setIfInBounds_toArray, List.set_cons_zero, List.set_cons_succ]; first | done | rfl)))
          (refine' Sq.det (E := _) (b := _) (by rfl) (by rfl) (by rfl) (fun w' hR hf => ?_) ?_ ?_; rotate_left 2; (· (refine exec_load_cells 43 _ g1 (off1 + k * 33) (resc l1[k]) ?_ _ Try.underlying43 rfl (by rw [resc_len]; exact size43) (fun j u hu => ?_); (· rfl); exact ((below_undrew hR).cell (p := ⟨g1, _, none⟩) HG1.out).trans (HC1.out j u hu))); (· (simp only [Act.put, List.setIfInBounds_toArray, List.set_cons_zero, List.set_cons_succ]; first | done | rfl)))
          iterate 3 (refine' Sq.det (E := _) (b := _) (by rfl) (by rfl) (by rfl) (fun w' hR hf => ?_) ?_ ?_; rotate_left 2; (· (go_simp; first | done | with_reducible rfl)); (· (simp only [Act.put, List.setIfInBounds_toArray, List.set_cons_zero, List.set_cons_succ]; first | done | rfl)))
          (refine' Sq.det (E := _) (b := _) (by rfl) (by rfl) (by rfl) (fun w' hR hf => ?_) ?_ ?_; rotate_left 2; (· (refine exec_load_cells 43 _ g2 (off2 + k * 33) (resc l2[k]) ?_ _ Try.underlying43 rfl (by rw [resc_len]; exact size43) (fun j u hu => ?_); (· rfl); exact ((below_undrew hR).cell (p := ⟨g2, _, none⟩) HG2.out).trans (HC2.out j u hu))); (· (simp only [Act.put, List.setIfInBounds_toArray, List.set_cons_zero, List.set_cons_succ]; first | done | rfl)))
          (refine' Sq.det (E := _) (b := _) (by rfl) (by rfl) (by rfl) (fun w' hR hf => ?_) ?_ ?_; rotate_left 2; (· (have hq := HQ.out; go_simp; first | done | with_reducible rfl)); (· (simp only [Act.put, List.setIfInBounds_toArray, List.set_cons_zero, List.set_cons_succ]; first | done | rfl)))
          refine Sq.done fun w2 hR _ => ?_
          have HB2 := Lib.hid (below_undrew hR)
          clear hR
        · go_wp2_with fail
          go_ret
          exact ⟨by rw [decide_eq_false (ne_at hlt hlt2 (of_decide_eq_false HE.out))]; rfl, HB.out.trans (HB2.out.mono HB.out.size)⟩
        · go_wp2_with fail
          go_roundw
          case rel => exact ⟨k + 1, by omega, by go_num, Lib.hid (take_step hlt hlt2 htk.out (of_decide_eq_true HE.out)), HB.out.trans (HB2.out.mono HB.out.size)⟩
          case measure => simp [intOf]; omega
      · have HB := Lib.hid hbw
        have HT := Lib.hid (take_all (k := k) HN.out (by omega) htk.out)
        clear hbw htk
        go_wp2_with fail
        go_ret
        exact ⟨by rw [decide_eq_true HT.out]; rfl, HB.out⟩
  · have HN := Lib.hid hn
    have hne : (l1.length : Int) ≠ (l2.length : Int) := by omega
    clear hn
    go_enter Try.func18, Try.ntmps18
    go_wp2_with fail
    go_ret
    exact ⟨by rw [decide_eq_false (fun h => HN.out (by rw [h]))]; rfl, Below.refl _ _⟩

set_option maxHeartbeats 1000000 in
theorem ids_any (l1 l2 : List Id) (g1 c1 g2 c2 : Nat) (A1 A2 : Option Addr) (w : World) (h1 : Rd w g1 32 A1 l1.length (l1.flatMap idc)) (h2 : Rd w g2 32 A2 l2.length (l2.flatMap idc)) (hl : l1.length ≤ 100000) (hl2 : l2.length ≤ 100000) :
    Calls Try.prog 26 #[.slice A1 l1.length c1, .slice A2 l2.length c2] w fun e w' => e = .returned (.bool (decide (l1 = l2))) ∧ Below w.heap.size w w' := by
  have H1 := Lib.hid h1
  have H2 := Lib.hid h2
  clear h1 h2
  by_cases hn : l1.length = l2.length
  · have HN := Lib.hid hn
    go_enter Try.func26, Try.ntmps26
    go_wp2_with fail
    go_loopw [5] (fun si wr => ∃ k : Nat, k ≤ l1.length ∧ si = .int .i64 k ∧ Hid (l1.take k = l2.take k) ∧ Below w.heap.size w wr) (fun i _ => l1.length - (intOf i).toNat)
    case atStart => exact ⟨0, by omega, rfl, Lib.hid rfl, Below.refl _ _⟩
    case round =>
      obtain ⟨k, hk, rfl, htk, hbw⟩ := hrel
      by_cases hlt : k < l1.length
      · have hlt2 : k < l2.length := by omega
        obtain ⟨hg1, off1, rfl, hc1⟩ := (H1.out.below hbw).elem (f := idc) idc_len hlt rfl
        obtain ⟨hg2, off2, rfl, hc2⟩ := (H2.out.below hbw).elem (f := idc) idc_len hlt2 rfl
        have HC1 := Lib.hid hc1
        have HC2 := Lib.hid hc2
        have HB := Lib.hid hbw
        have HG1 := Lib.hid hg1
        have HG2 := Lib.hid hg2
        clear hg1 hg2 hc1 hc2 hbw
        have hq0 := fun w => run_neq_ids w l1[k] l2[k]
        cases he : decide (l1[k] = l2[k])
        all_goals
          simp only [he, Bool.not_false, Bool.not_true] at hq0
          have HE := Lib.hid he
          have HQ := Lib.hid hq0
          clear he hq0
          go_wp2_with fail
          refine wp_region_seq (nt := 26) (by kernel_rfl) [0,1,2,3,4,5,6,7,8] [] Rb Rb.refl Rb.trans [] (by kernel_rfl) (by simp) rfl rfl (by simp) trivial ?_
          iterate 3 (refine' Sq.det (E := _) (b := _) (by rfl) (by rfl) (by rfl) (fun w' hR hf => ?_) ?_ ?_; rotate_left 2; (· (go_simp; first | done | with_reducible rfl)); (· (simp only [Act.put, List.setIfInBounds_toArray, List.set_cons_zero, List.set_cons_succ]; first | done | rfl)))
          (refine' Sq.det (E := _) (b := _) (by rfl) (by rfl) (by rfl) (fun w' hR hf => ?_) ?_ ?_; rotate_left 2; (· (refine exec_load_cells 37 _ g1 (off1 + k * 32) (idc l1[k]) ?_ _ Try.underlying37 rfl (by rw [idc_len]; exact size37) (fun j u hu => ?_); (· rfl); exact ((below_undrew hR).cell (p := ⟨g1, _, none⟩) HG1.out).trans (HC1.out j u hu))); (· (simp only [Act.put, List.setIfInBounds_toArray, List.set_cons_zero, List.set_cons_succ]; first | done | rfl)))
          iterate 3 (refine' Sq.det (E := _) (b := _) (by rfl) (by rfl) (by rfl) (fun w' hR hf => ?_) ?_ ?_; rotate_left 2; (· (go_simp; first | done | with_reducible rfl)); (· (simp only [Act.put, List.setIfInBounds_toArray, List.set_cons_zero, List.set_cons_succ]; first | done | rfl)))
          (refine' Sq.det (E := _) (b := _) (by rfl) (by rfl) (by rfl) (fun w' hR hf => ?_) ?_ ?_; rotate_left 2; (· (refine exec_load_cells 37 _ g2 (off2 + k * 32) (idc l2[k]) ?_ _ Try.underlying37 rfl (by rw [idc_len]; exact size37) (fun j u hu => ?_); (· rfl); exact ((below_undrew hR).cell (p := ⟨g2, _, none⟩) HG2.out).trans (HC2.out j u hu))); (· (simp only [Act.put, List.setIfInBounds_toArray, List.set_cons_zero, List.set_cons_succ]; first | done | rfl)))
          (refine' Sq.det (E := _) (b := _) (by rfl) (by rfl) (by rfl) (fun w' hR hf => ?_) ?_ ?_; rotate_left 2; (· (have hq := HQ.out; go_simp; first | done | with_reducible rfl)); (· (simp only [Act.put, List.setIfInBounds_toArray, List.set_cons_zero, List.set_cons_succ]; first | done | rfl)))
          refine Sq.done fun w2 hR _ => ?_
          have HB2 := Lib.hid (below_undrew hR)
          clear hR
        · go_wp2_with fail
          go_ret
          exact ⟨by rw [decide_eq_false (ne_at hlt hlt2 (of_decide_eq_false HE.out))]; rfl, HB.out.trans (HB2.out.mono HB.out.size)⟩
        · go_wp2_with fail
          go_roundw
          case rel => exact ⟨k + 1, by omega, by go_num, Lib.hid (take_step hlt hlt2 htk.out (of_decide_eq_true HE.out)), HB.out.trans (HB2.out.mono HB.out.size)⟩
          case measure => simp [intOf]; omega
      · have HB := Lib.hid hbw
        have HT := Lib.hid (take_all (k := k) HN.out (by omega) htk.out)
        clear hbw htk
        go_wp2_with fail
        go_ret
        exact ⟨by rw [decide_eq_true HT.out]; rfl, HB.out⟩
  · have HN := Lib.hid hn
    have hne : (l1.length : Int) ≠ (l2.length : Int) := by omega
    clear hn
    go_enter Try.func26, Try.ntmps26
    go_wp2_with fail
    go_ret
    exact ⟨by rw [decide_eq_false (fun h => HN.out (by rw [h]))]; rfl, Below.refl _ _⟩
end Go.Proofs.Ytbcejdmgdgghfaa
