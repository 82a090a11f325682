/- Contracts of the model's possible, outstanding, find. Conditions: at most 100,000 offers. -/
import Derived.Test.YtbcejdmgdgghfaaWp
namespace Go.Proofs.Ytbcejdmgdgghfaa
set_option linter.unusedSimpArgs false
set_option linter.unusedVariables false
set_option linter.unnecessarySimpa false
open Go.RowKit

theorem possible_any (a o : Int) (w : World) : Calls Try.prog 31 #[.int .i64 a, .int .i64 o] w fun e w' => e = .returned (.bool (possB a o)) ∧ w = w' := by
  by_cases h0 : a = 0
  · subst h0
    by_cases h1 : o = 1
    · subst h1
      go_enter Try.func31, Try.ntmps31
      go_wp2
      go_ret
      exact ⟨rfl, rfl⟩
    · by_cases h3 : o = 3
      · subst h3
        go_enter Try.func31, Try.ntmps31
        go_wp2
        go_ret
        exact ⟨rfl, rfl⟩
      · by_cases h4 : o = 4
        · subst h4
          go_enter Try.func31, Try.ntmps31
          go_wp2
          go_ret
          exact ⟨rfl, rfl⟩
        · by_cases h5 : o = 5
          · subst h5
            go_enter Try.func31, Try.ntmps31
            go_wp2
            go_ret
            exact ⟨rfl, rfl⟩
          · have b1 : (o == 1) = false := by simpa using h1
            have b3 : (o == 3) = false := by simpa using h3
            have b4 : (o == 4) = false := by simpa using h4
            have b5 : (o == 5) = false := by simpa using h5
            have hp : possB 0 o = false := by simp [possB, h1, h3, h4, h5]
            go_enter Try.func31, Try.ntmps31
            go_wp2
            go_ret
            exact ⟨by rw [hp]; rfl, rfl⟩
  · have c0 : (a == 0) = false := by simpa using h0
    by_cases h1 : a = 1
    · subst h1
      by_cases h2 : o = 2
      · subst h2
        go_enter Try.func31, Try.ntmps31
        go_wp2
        go_ret
        exact ⟨rfl, rfl⟩
      · by_cases h4 : o = 4
        · subst h4
          go_enter Try.func31, Try.ntmps31
          go_wp2
          go_ret
          exact ⟨rfl, rfl⟩
        · by_cases h5 : o = 5
          · subst h5
            go_enter Try.func31, Try.ntmps31
            go_wp2
            go_ret
            exact ⟨rfl, rfl⟩
          · have b2 : (o == 2) = false := by simpa using h2
            have b4 : (o == 4) = false := by simpa using h4
            have b5 : (o == 5) = false := by simpa using h5
            have hp : possB 1 o = false := by simp [possB, h2, h4, h5]
            go_enter Try.func31, Try.ntmps31
            go_wp2
            go_ret
            exact ⟨by rw [hp]; rfl, rfl⟩
    · have c1 : (a == 1) = false := by simpa using h1
      have hp : possB a o = false := by simp [possB, h0, h1]
      go_enter Try.func31, Try.ntmps31
      go_wp2
      go_ret
      exact ⟨by rw [hp]; rfl, rfl⟩

/-- a model as a value: its size, its offers in block g -/
def mval (s : Int) (A : Option Addr) (n c : Nat) : Array Value := #[.int .i64 s, .slice A n c]
theorem outB_lt {o : Ofr} (h0 : 0 ≤ o.outcome) : decide (o.outcome < 2) = outB o := by
  unfold outB
  by_cases h : o.outcome = 0
  · simp [h]
  · by_cases h1 : o.outcome = 1
    · simp [h1]
    · have : ¬ o.outcome < 2 := by omega
      simp [h, h1, this]

set_option maxHeartbeats 1000000 in
theorem mout_any (g c : Nat) (A : Option Addr) (s : Int) (l : List Ofr) (w : World) (hr : Rd w g 34 A l.length (l.flatMap ofrc)) (hl : l.length ≤ 100000) (hok : OkL l) :
    Calls Try.prog 27 #[.agg #[.int .i64 s, .slice A l.length c]] w fun e w' => ∃ v, e = .returned v ∧ w'.ownsRow w.heap.size 37 32 v (outs l).length ((outs l).flatMap idc) ∧ Below w.heap.size w w' := by
  obtain ⟨i0, hi0, hz0, hz1, hz2⟩ := info_parts info37
  have HOK := Lib.hid hok
  have hb0 := bnew w (.cells #[.int .i64 s, .slice A l.length c] 58)
  have HB0 := Lib.hid hb0
  have HR := Lib.hid (hr.below hb0)
  have HP := Lib.hid (Blk.new w 58 #[.int .i64 s, .slice A l.length c])
  clear hr hb0 hok
  go_enter Try.func27, Try.ntmps27
  go_wp2_with fail
  go_loopw [3, 4] (fun v si wr => ∃ k : Nat, k ≤ l.length ∧ si = .int .i64 k ∧ wr.ownsRow (w.heap.size + 1) 37 32 v (outs (l.take k)).length ((outs (l.take k)).flatMap idc) ∧ Below (w.heap.size + 1) (w.alloc (.cells #[.int .i64 s, .slice A l.length c] 58)) wr) (fun _ i _ => l.length - (intOf i).toNat)
  case atStart => exact ⟨0, by omega, rfl, World.ownsRow_nil _ _ _ _, Below.refl _ _⟩
  case round =>
    obtain ⟨k, hk, rfl, hown, hbw⟩ := hrel
    have hbw' : Below (w.alloc (.cells #[.int .i64 s, .slice A l.length c] 58)).heap.size (w.alloc (.cells #[.int .i64 s, .slice A l.length c] 58)) wr := by rw [show (w.alloc (.cells #[.int .i64 s, .slice A l.length c] 58)).heap.size = w.heap.size + 1 by simp]; exact hbw
    have hp := (HP.out.below hbw').cell 1
    simp only [List.getElem?_toArray, List.getElem?_cons_succ, List.getElem?_cons_zero] at hp
    have hzz : w.heap.size + 1 ≤ wr.heap.size := by have := hbw.size; simpa using this
    by_cases hlt' : k < l.length
    · obtain ⟨hg, off, rfl, hc⟩ := (HR.out.below hbw').elem ofrc_len hlt' rfl
      have c33 := hc 33 _ (ofrc_33 _)
      have HC := Lib.hid hc
      have HB := Lib.hid hbw
      have HO := Lib.hid hown
      have hle : (outs (l.take k)).length ≤ 100000 := by have := outs_le (l.take k); simp only [List.length_take] at this; omega
      have hlt2 := outB_lt (HOK.out l[k] (List.getElem_mem hlt')).1
      clear hc hg hbw hown hbw'
      cases hpo : outB l[k]
      all_goals
        rw [hpo] at hlt2
        have HPO := Lib.hid hpo
        clear hpo
        go_wp2_with (first
          | (with_reducible refine at_dst 25 ?_; refine wpList_load_cells rfl 37 _ rfl g (off + k * 34) (idc l[k].id) rfl _ Try.underlying37 rfl (by rw [idc_len]; exact size37) (fun j u hu => ?_) ?_; (have hj : j < 32 := by (have := (List.getElem?_eq_some_iff.1 hu).1; rwa [idc_len] at this)); (exact HC.out j u (by rw [ofrc_id _ j hj]; exact hu)))
          | (with_reducible refine at_dst 26 ?_; refine wpList_push 33 (w.heap.size + 1) 37 i0 z37 32 32 Try.underlying33 hi0 hz0 hz1 hz2 z37_size (by omega) (by omega) _ (idc l[k].id) rfl rfl (idc_len _) (oneCell_idc _) u3 (outs (l.take k)).length ((outs (l.take k)).flatMap idc) rfl (by simp [Act.put]) HO.out (by simp only [maxLen]; omega) (by omega) hzz ?_; intro v' w2 hown2 hgr2 _; have HO2 := Lib.hid hown2; have HG2 := Lib.hid hgr2; clear hown2 hgr2))
        skip
      · go_roundw
        case rel =>
          refine ⟨k + 1, by omega, by go_num, ?_, HB.out⟩
          rw [outs_take l k hlt', HPO.out]
          simpa using HO.out
        case measure => simp [intOf]; omega
      · go_roundw
        case rel =>
          refine ⟨k + 1, by omega, by go_num, ?_, HB.out.grown HG2.out hzz (fun x hx => (HO.out.lt x hx).1)⟩
          rw [outs_take l k hlt', HPO.out]
          simpa using HO2.out
        case measure => simp [intOf]; omega
    · have HB := Lib.hid (HB0.out.trans' hbw')
      have HO := Lib.hid hown
      clear hbw hbw' hown
      go_wp2_with fail
      go_ret
      have hown := ownsRow_base (b' := w.heap.size) HO.out (by omega)
      rw [List.take_of_length_le (by omega)] at hown
      exact ⟨_, rfl, hown, HB.out⟩

set_option maxHeartbeats 1000000 in
theorem mfind_any (g c : Nat) (A : Option Addr) (s : Int) (l : List Ofr) (i : Id) (w : World) (hr : Rd w g 34 A l.length (l.flatMap ofrc)) (hl : l.length ≤ 100000) :
    Calls Try.prog 30 #[.agg #[.int .i64 s, .slice A l.length c], .agg (idc i).toArray] w fun e w' => e = .returned (.int .i64 (idxI (isId i) l 0)) ∧ Below w.heap.size w w' := by
  have hb0 : Below w.heap.size w ((w.alloc (.cells #[.int .i64 s, .slice A l.length c] 58)).alloc (.cells (idc i).toArray 37)) := (bnew w _).trans' (bnew _ _)
  have HB0 := Lib.hid hb0
  have HR := Lib.hid (hr.below hb0)
  have HP := Lib.hid ((Blk.new w 58 #[.int .i64 s, .slice A l.length c]).alloc (.cells (idc i).toArray 37))
  have HQ := Lib.hid (Blk.new (w.alloc (.cells #[.int .i64 s, .slice A l.length c] 58)) 37 (idc i).toArray)
  clear hr hb0
  go_enter Try.func30, Try.ntmps30
  go_wp2_with fail
  go_loopw [5] (fun si wr => ∃ k : Nat, k ≤ l.length ∧ si = .int .i64 k ∧ Hid (idxI (isId i) l 0 = idxI (isId i) (l.drop k) k) ∧ Below ((w.alloc (.cells #[.int .i64 s, .slice A l.length c] 58)).alloc (.cells (idc i).toArray 37)).heap.size ((w.alloc (.cells #[.int .i64 s, .slice A l.length c] 58)).alloc (.cells (idc i).toArray 37)) wr) (fun i _ => l.length - (intOf i).toNat)
  case atStart => exact ⟨0, by omega, rfl, Lib.hid rfl, Below.refl _ _⟩
  case round =>
    obtain ⟨k, hk, rfl, hix, hbw⟩ := hrel
    have hp := (HP.out.below hbw).cell 1
    simp only [List.getElem?_toArray, List.getElem?_cons_succ, List.getElem?_cons_zero] at hp
    have hq := HQ.out.below hbw
    have hsz : (w.alloc (.cells #[.int .i64 s, .slice A l.length c] 58)).heap.size = w.heap.size + 1 := by simp
    rw [hsz] at hq
    have hlt2 := hq.lt
    have HQ2 := Lib.hid hq
    clear hq
    by_cases hlt : k < l.length
    · obtain ⟨hg, off, rfl, hc⟩ := (HR.out.below hbw).elem ofrc_len hlt rfl
      have hd : l.drop k = l[k] :: l.drop (k + 1) := List.drop_eq_getElem_cons hlt
      have hd' := hix.out
      rw [hd] at hd'
      have HD := Lib.hid hd'
      have HC := Lib.hid hc
      have HB := Lib.hid hbw
      have HG := Lib.hid hg
      have HP1 := Lib.hid hp
      have hq0 := fun w => run_eql_ids w l[k].id i
      clear hd hd' hix hc hg hbw hsz hp
      cases he : decide (l[k].id = i)
      all_goals
        simp only [he] at hq0
        have HE := Lib.hid (show isId i l[k] = _ from he)
        have HQQ := Lib.hid hq0
        clear he hq0
        have hp := HP1.out
        go_wp2_with fail
        clear hp
        refine wp_region_seq (nt := 22) (by kernel_rfl) [0,1,2,3,4,5,6,7] [] Rb Rb.refl Rb.trans [] (by kernel_rfl) (by simp) rfl rfl (by simp) trivial ?_
        (refine' Sq.det (E := _) (b := _) (by rfl) (by rfl) (by rfl) (fun w' hR hf => ?_) ?_ ?_; rotate_left 2; (· (go_simp; first | done | with_reducible rfl)); (· (simp only [Act.put, List.setIfInBounds_toArray, List.set_cons_zero, List.set_cons_succ]; first | done | rfl)))
        (refine' Sq.det (E := _) (b := _) (by rfl) (by rfl) (by rfl) (fun w' hR hf => ?_) ?_ ?_; rotate_left 2; (· (have hcell : w'.cell? ⟨w.heap.size, 1, none⟩ = some (.slice (some ⟨g, off, none⟩) l.length c) := ((below_undrew hR).cell (p := ⟨w.heap.size, 1, none⟩) (Nat.lt_of_succ_lt hlt2)).trans HP1.out; go_simp; first | done | with_reducible rfl)); (· (simp only [Act.put, List.setIfInBounds_toArray, List.set_cons_zero, List.set_cons_succ]; first | done | rfl)))
        iterate 3 (refine' Sq.det (E := _) (b := _) (by rfl) (by rfl) (by rfl) (fun w' hR hf => ?_) ?_ ?_; rotate_left 2; (· (go_simp; first | done | with_reducible rfl)); (· (simp only [Act.put, List.setIfInBounds_toArray, List.set_cons_zero, List.set_cons_succ]; first | done | rfl)))
        (refine' Sq.det (E := _) (b := _) (by rfl) (by rfl) (by rfl) (fun w' hR hf => ?_) ?_ ?_; rotate_left 2; (· (refine exec_load_cells 37 _ g (off + k * 34) (idc l[k].id) ?_ _ Try.underlying37 rfl (by rw [idc_len]; exact size37) (fun j u hu => ?_); (· rfl); (have hj : j < 32 := by (have := (List.getElem?_eq_some_iff.1 hu).1; rwa [idc_len] at this)); exact ((below_undrew hR).cell (p := ⟨g, _, none⟩) HG.out).trans (HC.out j u (by rw [ofrc_id _ j hj]; exact hu)))); (· (simp only [Act.put, List.setIfInBounds_toArray, List.set_cons_zero, List.set_cons_succ]; first | done | rfl)))
        (refine' Sq.det (E := _) (b := _) (by rfl) (by rfl) (by rfl) (fun w' hR hf => ?_) ?_ ?_; rotate_left 2; (· (refine exec_load_cells 37 _ (w.heap.size + 1) 0 (idc i) ?_ _ Try.underlying37 rfl (by rw [idc_len]; exact size37) (fun j u hu => ?_); (· rfl); (rw [Nat.zero_add, (HQ2.out.below (below_undrew hR)).cell, List.getElem?_toArray]; exact hu))); (· (simp only [Act.put, List.setIfInBounds_toArray, List.set_cons_zero, List.set_cons_succ]; first | done | rfl)))
        (refine' Sq.det (E := _) (b := _) (by rfl) (by rfl) (by rfl) (fun w' hR hf => ?_) ?_ ?_; rotate_left 2; (· (have hqq := HQQ.out; go_simp; first | done | with_reducible rfl)); (· (simp only [Act.put, List.setIfInBounds_toArray, List.set_cons_zero, List.set_cons_succ]; first | done | rfl)))
        refine Sq.done fun w2 hR _ => ?_
        have HB2 := Lib.hid (below_undrew hR)
        clear hR
      · go_wp2_with fail
        go_roundw
        case rel => exact ⟨k + 1, by omega, by go_num, Lib.hid (by rw [HD.out]; simp [idxI, HE.out]), HB.out.trans (HB2.out.mono HB.out.size)⟩
        case measure => simp [intOf]; omega
      · go_wp2_with fail
        go_ret
        exact ⟨by rw [HD.out]; simp [idxI, HE.out], HB0.out.trans ((HB.out.trans (HB2.out.mono HB.out.size)).mono HB0.out.size)⟩
    · have hd : l.drop k = [] := List.drop_eq_nil_of_le (by omega)
      have hd' := hix.out
      rw [hd] at hd'
      have HD := Lib.hid hd'
      have HB := Lib.hid (HB0.out.trans (hbw.mono HB0.out.size))
      clear hd hd' hix hbw
      go_wp2_with fail
      go_ret
      exact ⟨by rw [HD.out]; rfl, HB.out⟩
end Go.Proofs.Ytbcejdmgdgghfaa
