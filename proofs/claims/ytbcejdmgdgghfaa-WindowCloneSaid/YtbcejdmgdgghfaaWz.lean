/- Contract of same: a window in the state of the model. Conditions: at most 1,000 offers, no identity twice. -/
import Derived.Test.YtbcejdmgdgghfaaWy
namespace Go.Proofs.Ytbcejdmgdgghfaa
set_option linter.unusedSimpArgs false
set_option linter.unusedVariables false
set_option linter.unnecessarySimpa false
open Go.RowKit

def IsV (x v : Value) : Prop := v = x
def IsS (n : Nat) (v : Value) : Prop := ∃ A c, v = .slice A n c
set_option maxRecDepth 20000 in
set_option maxHeartbeats 2000000 in
theorem same_any (b gw gm c : Nat) (A : Option Addr) (s : Int) (l : List Ofr) (w : World) (h : Win w b s l gw) (hr : Rd w gm 34 A l.length (l.flatMap ofrc)) (hl : l.length ≤ 1000) (hok : OkL l) (hnd : NdL l) (hs1 : 1 ≤ s) (hs2 : s ≤ 64) :
    Calls Try.prog 34 #[.pointer (some ⟨b, 0, none⟩), .agg #[.int .i64 s, .slice A l.length c]] w fun e w' => e = .returned (.bool true) ∧ Below w.heap.size w w' := by
  have hb0 := bnew w (.cells #[.int .i64 s, .slice A l.length c] 58)
  have HB0 := Lib.hid hb0
  have HW := Lib.hid (h.below hb0)
  have HR := Lib.hid (hr.below hb0)
  have HM := Lib.hid (Blk.new w 58 #[.int .i64 s, .slice A l.length c])
  have HOK := Lib.hid hok
  have HND := Lib.hid hnd
  have hol := outs_le l
  have hro : roomOf s l = if ((outs l).length : Int) < s then s - ((outs l).length : Int) else 0 := by unfold roomOf; split <;> omega
  have HRO := Lib.hid hro
  have hsub : IntKind.i64.wrap (s - ↑(outs l).length) = s - ↑(outs l).length := IntWalk.i64_in _ (by omega)
  have HSUB := Lib.hid hsub
  clear h hr hb0 hok hnd hro hsub
  go_enter Try.func34, Try.ntmps34
  go_wp2_with fail
  refine wp_region_seq (nt := 71) (by kernel_rfl) [0,1,2,3,4,5,6,7,8,9,10,11,12,13,14,15,16,17,18,19,20,21,22,23,24,25,26,27,28,29,30,31,32] [] Rb Rb.refl Rb.trans [(1, fun v _ => IsV (.int .i64 s) v), (7, fun v _ => IsV (.int .i64 l.length) v), (15, fun v w' => w'.ownsRow 0 37 32 v (outs l).length ((outs l).flatMap idc)), (17, fun v w' => w'.ownsRow 0 37 32 v (outs l).length ((outs l).flatMap idc)), (18, fun v _ => IsV (.bool true) v), (23, fun v _ => IsV (.int .i64 (roomOf s l)) v), (27, fun v _ => IsS (outs l).length v)] (by kernel_rfl) (by simp) rfl (by kernel_rfl) (by simp) ⟨fun _ _ _ _ _ h => h, fun _ _ _ _ _ h => h, fun v w w' _ h2 h => below_kept h h2, fun v w w' _ h2 h => below_kept h h2, fun _ _ _ _ _ h => h, fun _ _ _ _ _ h => h, fun _ _ _ _ _ h => h, trivial⟩ ?_
  (refine' Sq.det (E := _) (b := _) (by rfl) (by rfl) (by rfl) (fun w' hR hf => ?_) ?_ ?_; rotate_left 2; (· (go_simp; first | done | with_reducible rfl)); (· (simp only [Act.put, List.setIfInBounds_toArray, List.set_cons_zero, List.set_cons_succ]; first | done | rfl)))
  (refine' Sq.any (f := _) (by rfl) (by rfl) (by rfl) (fun w' hR hf => ?_) (fun v => ?_) (fun v1 => ?_); (· (go_wp2_with (go_at_call 21; refine (size_any b gw s l w' (HW.out.below (below_undrew hR))).mono ?_; rintro e w1 ⟨rfl, rfl⟩); exact ⟨Below.refl _ _, rfl⟩)); rotate_left 1; (· (simp only [Act.put, List.setIfInBounds_toArray, List.set_cons_zero, List.set_cons_succ]; first | done | rfl)))
  (refine' Sq.det (E := _) (b := _) (by rfl) (by rfl) (by rfl) (fun w' hR hf => ?_) ?_ ?_; rotate_left 2; (· (go_simp; first | done | with_reducible rfl)); (· (simp only [Act.put, List.setIfInBounds_toArray, List.set_cons_zero, List.set_cons_succ]; first | done | rfl)))
  (refine' Sq.det (E := _) (b := _) (by rfl) (by rfl) (by rfl) (fun w' hR hf => ?_) ?_ ?_; rotate_left 2; (· (have hc : w'.cell? ⟨w.heap.size, 0, none⟩ = some (.int .i64 s) := (by rw [(HM.out.below (below_undrew hR)).cell]; rfl); go_simp; first | done | with_reducible rfl)); (· (simp only [Act.put, List.setIfInBounds_toArray, List.set_cons_zero, List.set_cons_succ]; first | done | rfl)))
  (refine' Sq.det (E := _) (b := _) (by rfl) (by rfl) (by rfl) (fun w' hR hf => ?_) ?_ ?_; rotate_left 2; (· (have hv : v1 = .int .i64 s := hf 1 (by decide) _ rfl; subst hv; go_simp; first | done | with_reducible rfl)); (· (simp only [Act.put, List.setIfInBounds_toArray, List.set_cons_zero, List.set_cons_succ]; first | done | rfl)))
  iterate 2 (refine' Sq.det (E := _) (b := _) (by rfl) (by rfl) (by rfl) (fun w' hR hf => ?_) ?_ ?_; rotate_left 2; (· (go_simp; first | done | with_reducible rfl)); (· (simp only [Act.put, List.setIfInBounds_toArray, List.set_cons_zero, List.set_cons_succ]; first | done | rfl)))
  (refine' Sq.any (f := _) (by rfl) (by rfl) (by rfl) (fun w' hR hf => ?_) (fun v => ?_) (fun v7 => ?_); (· (go_wp2_with (go_at_call 19; refine (len_any b gw s l w' (HW.out.below (below_undrew hR))).mono ?_; rintro e w1 ⟨rfl, rfl⟩); exact ⟨Below.refl _ _, rfl⟩)); rotate_left 1; (· (simp only [Act.put, List.setIfInBounds_toArray, List.set_cons_zero, List.set_cons_succ]; first | done | rfl)))
  (refine' Sq.det (E := _) (b := _) (by rfl) (by rfl) (by rfl) (fun w' hR hf => ?_) ?_ ?_; rotate_left 2; (· (go_simp; first | done | with_reducible rfl)); (· (simp only [Act.put, List.setIfInBounds_toArray, List.set_cons_zero, List.set_cons_succ]; first | done | rfl)))
  (refine' Sq.det (E := _) (b := _) (by rfl) (by rfl) (by rfl) (fun w' hR hf => ?_) ?_ ?_; rotate_left 2; (· (have hc : w'.cell? ⟨w.heap.size, 1, none⟩ = some (.slice A l.length c) := (by rw [(HM.out.below (below_undrew hR)).cell]; rfl); go_simp; first | done | with_reducible rfl)); (· (simp only [Act.put, List.setIfInBounds_toArray, List.set_cons_zero, List.set_cons_succ]; first | done | rfl)))
  (refine' Sq.det (E := _) (b := _) (by rfl) (by rfl) (by rfl) (fun w' hR hf => ?_) ?_ ?_; rotate_left 2; (· (go_simp; first | done | with_reducible rfl)); (· (simp only [Act.put, List.setIfInBounds_toArray, List.set_cons_zero, List.set_cons_succ]; first | done | rfl)))
  (refine' Sq.det (E := _) (b := _) (by rfl) (by rfl) (by rfl) (fun w' hR hf => ?_) ?_ ?_; rotate_left 2; (· (have hv : v7 = .int .i64 l.length := hf 7 (by decide) _ rfl; subst hv; go_simp; first | done | with_reducible rfl)); (· (simp only [Act.put, List.setIfInBounds_toArray, List.set_cons_zero, List.set_cons_succ]; first | done | rfl)))
  iterate 3 (refine' Sq.det (E := _) (b := _) (by rfl) (by rfl) (by rfl) (fun w' hR hf => ?_) ?_ ?_; rotate_left 2; (· (go_simp; first | done | with_reducible rfl)); (· (simp only [Act.put, List.setIfInBounds_toArray, List.set_cons_zero, List.set_cons_succ]; first | done | rfl)))
  (refine' Sq.any (f := _) (by rfl) (by rfl) (by rfl) (fun w' hR hf => ?_) (fun v => ?_) (fun v15 => ?_); (· (go_wp2_with (go_at_call 14; refine (outstanding_any b gw s l w' (HW.out.below (below_undrew hR)) (by omega)).mono ?_; rintro e w1 ⟨v, rfl, ho, hb1⟩); exact ⟨hb1, ownsRow_base ho (Nat.zero_le _)⟩)); rotate_left 1; (· (simp only [Act.put, List.setIfInBounds_toArray, List.set_cons_zero, List.set_cons_succ]; first | done | rfl)))
  (refine' Sq.det (E := _) (b := _) (by rfl) (by rfl) (by rfl) (fun w' hR hf => ?_) ?_ ?_; rotate_left 2; (· (refine exec_load_cells 58 _ w.heap.size 0 [.int .i64 s, .slice A l.length c] ?_ _ Try.underlying58 rfl (size58' _ _) (fun j u hu => ?_); (· kernel_rfl); (rw [Nat.zero_add, (HM.out.below (below_undrew hR)).cell, List.getElem?_toArray]; exact hu))); (· (simp only [Act.put, List.setIfInBounds_toArray, List.set_cons_zero, List.set_cons_succ]; first | done | rfl)))
  (refine' Sq.any (f := _) (by rfl) (by rfl) (by rfl) (fun w' hR hf => ?_) (fun v => ?_) (fun v17 => ?_); (· (go_wp2_with (go_at_call 27; refine (mout_any gm c A s l w' (HR.out.below (below_undrew hR)) (by omega) HOK.out).mono ?_; rintro e w1 ⟨v, rfl, ho, hb1⟩); exact ⟨hb1, ownsRow_base ho (Nat.zero_le _)⟩)); rotate_left 1; (· (simp only [Act.put, List.setIfInBounds_toArray, List.set_cons_zero, List.set_cons_succ]; first | done | rfl)))
  (refine' Sq.any (f := _) (by rfl) (by rfl) (by rfl) (fun w' hR hf => ?_) (fun v => ?_) (fun v18 => ?_); (· (have h15 : w'.ownsRow 0 37 32 v15 (outs l).length ((outs l).flatMap idc) := hf 15 (by decide) _ rfl; have h17 : w'.ownsRow 0 37 32 v17 (outs l).length ((outs l).flatMap idc) := hf 17 (by decide) _ rfl; obtain ⟨A1, c1, rfl⟩ := own_slice h15; obtain ⟨A2, c2, rfl⟩ := own_slice h17; obtain ⟨q1, r1, _⟩ := Rd.own h15; obtain ⟨q2, r2, _⟩ := Rd.own h17; go_wp2_with (go_at_call 26; refine (ids_any (outs l) (outs l) q1 c1 q2 c2 A1 A2 w' r1 r2 (by omega) (by omega)).mono ?_; rintro e w1 ⟨he, hb1⟩; obtain rfl := he.trans (show _ = Ending.returned (.bool true) by simp)); exact ⟨hb1, rfl⟩)); rotate_left 1; (· (simp only [Act.put, List.setIfInBounds_toArray, List.set_cons_zero, List.set_cons_succ]; first | done | rfl)))
  (refine' Sq.det (E := _) (b := _) (by rfl) (by rfl) (by rfl) (fun w' hR hf => ?_) ?_ ?_; rotate_left 2; (· (have hv : v18 = .bool true := hf 18 (by decide) _ rfl; subst hv; go_simp; first | done | with_reducible rfl)); (· (simp only [Act.put, List.setIfInBounds_toArray, List.set_cons_zero, List.set_cons_succ]; first | done | rfl)))
  iterate 3 (refine' Sq.det (E := _) (b := _) (by rfl) (by rfl) (by rfl) (fun w' hR hf => ?_) ?_ ?_; rotate_left 2; (· (go_simp; first | done | with_reducible rfl)); (· (simp only [Act.put, List.setIfInBounds_toArray, List.set_cons_zero, List.set_cons_succ]; first | done | rfl)))
  (refine' Sq.any (f := _) (by rfl) (by rfl) (by rfl) (fun w' hR hf => ?_) (fun v => ?_) (fun v23 => ?_); (· (go_wp2_with (go_at_call 22; refine (room_any b gw s l w' (HW.out.below (below_undrew hR)) (by omega) hs1 hs2).mono ?_; rintro e w1 ⟨rfl, hb1⟩); exact ⟨hb1, rfl⟩)); rotate_left 1; (· (simp only [Act.put, List.setIfInBounds_toArray, List.set_cons_zero, List.set_cons_succ]; first | done | rfl)))
  (refine' Sq.det (E := _) (b := _) (by rfl) (by rfl) (by rfl) (fun w' hR hf => ?_) ?_ ?_; rotate_left 2; (· (go_simp; first | done | with_reducible rfl)); (· (simp only [Act.put, List.setIfInBounds_toArray, List.set_cons_zero, List.set_cons_succ]; first | done | rfl)))
  (refine' Sq.det (E := _) (b := _) (by rfl) (by rfl) (by rfl) (fun w' hR hf => ?_) ?_ ?_; rotate_left 2; (· (have hc : w'.cell? ⟨w.heap.size, 0, none⟩ = some (.int .i64 s) := (by rw [(HM.out.below (below_undrew hR)).cell]; rfl); go_simp; first | done | with_reducible rfl)); (· (simp only [Act.put, List.setIfInBounds_toArray, List.set_cons_zero, List.set_cons_succ]; first | done | rfl)))
  (refine' Sq.det (E := _) (b := _) (by rfl) (by rfl) (by rfl) (fun w' hR hf => ?_) ?_ ?_; rotate_left 2; (· (refine exec_load_cells 58 _ w.heap.size 0 [.int .i64 s, .slice A l.length c] ?_ _ Try.underlying58 rfl (size58' _ _) (fun j u hu => ?_); (· kernel_rfl); (rw [Nat.zero_add, (HM.out.below (below_undrew hR)).cell, List.getElem?_toArray]; exact hu))); (· (simp only [Act.put, List.setIfInBounds_toArray, List.set_cons_zero, List.set_cons_succ]; first | done | rfl)))
  (refine' Sq.any (f := _) (by rfl) (by rfl) (by rfl) (fun w' hR hf => ?_) (fun v => ?_) (fun v27 => ?_); (· (go_wp2_with (go_at_call 27; refine (mout_any gm c A s l w' (HR.out.below (below_undrew hR)) (by omega) HOK.out).mono ?_; rintro e w1 ⟨v, rfl, ho, hb1⟩); obtain ⟨A1, c1, rfl⟩ := own_slice ho; exact ⟨hb1, _, _, rfl⟩)); rotate_left 1; (· (simp only [Act.put, List.setIfInBounds_toArray, List.set_cons_zero, List.set_cons_succ]; first | done | rfl)))
  (refine' Sq.det (E := _) (b := _) (by rfl) (by rfl) (by rfl) (fun w' hR hf => ?_) ?_ ?_; rotate_left 2; (· (have hv : ∃ A c, v27 = .slice A (outs l).length c := hf 27 (by decide) _ rfl; obtain ⟨A1, c1, rfl⟩ := hv; go_simp; first | done | with_reducible rfl)); (· (simp only [Act.put, List.setIfInBounds_toArray, List.set_cons_zero, List.set_cons_succ]; first | done | rfl)))
  (refine' Sq.det (E := _) (b := _) (by rfl) (by rfl) (by rfl) (fun w' hR hf => ?_) ?_ ?_; rotate_left 2; (· (have hq := HSUB.out; go_simp; first | done | with_reducible rfl)); (· (simp only [Act.put, List.setIfInBounds_toArray, List.set_cons_zero, List.set_cons_succ]; first | done | rfl)))
  (refine' Sq.det (E := _) (b := _) (by rfl) (by rfl) (by rfl) (fun w' hR hf => ?_) ?_ ?_; rotate_left 2; (· (go_simp; rw [← HRO.out])); (· (simp only [Act.put, List.setIfInBounds_toArray, List.set_cons_zero, List.set_cons_succ]; first | done | rfl)))
  (refine' Sq.det (E := _) (b := _) (by rfl) (by rfl) (by rfl) (fun w' hR hf => ?_) ?_ ?_; rotate_left 2; (· (have hv : v23 = .int .i64 (roomOf s l) := hf 23 (by decide) _ rfl; subst hv; go_simp; first | done | with_reducible rfl)); (· (simp only [Act.put, List.setIfInBounds_toArray, List.set_cons_zero, List.set_cons_succ]; first | done | rfl)))
  (refine' Sq.det (E := _) (b := _) (by rfl) (by rfl) (by rfl) (fun w' hR hf => ?_) ?_ ?_; rotate_left 2; (· (go_simp; first | done | with_reducible rfl)); (· (simp only [Act.put, List.setIfInBounds_toArray, List.set_cons_zero, List.set_cons_succ]; first | done | rfl)))
  refine Sq.done fun w2 hR _ => ?_
  have HB2 := Lib.hid (below_undrew hR)
  clear hR
  go_wp2_with fail
  go_loopw [5] (fun si wr => ∃ k : Nat, k ≤ l.length ∧ si = .int .i64 k ∧ Below (w.alloc (.cells #[.int .i64 s, .slice A l.length c] 58)).heap.size (w.alloc (.cells #[.int .i64 s, .slice A l.length c] 58)) wr) (fun si _ => l.length - (intOf si).toNat)
  case atStart => exact ⟨0, by omega, rfl, HB2.out⟩
  case round =>
    obtain ⟨k, hk, rfl, hbw⟩ := hrel
    have HBW := Lib.hid hbw
    have hp1 := (HM.out.below hbw).cell 1
    simp only [List.getElem?_toArray, List.getElem?_cons_succ, List.getElem?_cons_zero] at hp1
    clear hbw
    by_cases hlt : k < l.length
    · obtain ⟨hg, off, rfl, hc⟩ := (HR.out.below HBW.out).elem ofrc_len hlt rfl
      have HC := Lib.hid hc
      have HG := Lib.hid hg
      have HNO := Lib.hid (nd_outcome HND.out hlt)
      clear hc hg
      go_wp2_with (first
        | (with_reducible refine at_dst 55 ?_; refine wpList_load_cells rfl 37 _ rfl gm (off + k * 34) (idc l[k].id) rfl _ Try.underlying37 rfl (sz_id _) (fun j u hu => ?_) ?_; (have hj : j < 32 := by (have := (List.getElem?_eq_some_iff.1 hu).1; rwa [idc_len] at this)); (exact HC.out j u (by rw [ofrc_id _ j hj]; exact hu)))
        | (go_at_call 28; with_reducible refine (outcome_any b gw s l l[k].id wr (HW.out.below HBW.out) (by omega)).mono ?_; rintro e w3 ⟨he, hb3⟩; rw [HNO.out] at he; subst he; have hc33 := (hb3.cell (p := ⟨gm, off + k * 34 + 33, none⟩) HG.out).trans (HC.out 33 _ (ofrc_33 _)); have hp3 := (HM.out.below (HBW.out.trans' hb3)).cell 1; simp only [List.getElem?_toArray, List.getElem?_cons_succ, List.getElem?_cons_zero] at hp3; have HB3 := Lib.hid (HBW.out.trans' hb3); clear hb3))
      go_roundw
      case rel => exact ⟨k + 1, by omega, by go_num, HB3.out⟩
      case measure => simp [intOf]; omega
    · go_wp2_with fail
      go_ret
      exact ⟨rfl, HB0.out.trans' HBW.out⟩
end Go.Proofs.Ytbcejdmgdgghfaa
