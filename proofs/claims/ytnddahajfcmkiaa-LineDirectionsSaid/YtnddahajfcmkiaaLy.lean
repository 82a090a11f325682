/- The line: pass at a line that is down. Conditions: a valid line. -/
import Derived.Test.YtnddahajfcmkiaaLw
import Derived.Test.YtnddahajfcmkiaaLx
namespace Go.Proofs.Ytnddahajfcmkiaa
set_option linter.unusedSimpArgs false
set_option linter.unusedVariables false
set_option linter.unnecessarySimpa false
open Go.RowKit
set_option maxRecDepth 100000 in
set_option maxHeartbeats 8000000 in
theorem pass_down {F : Nat → Prop} {B : Nat} (r d p now nn ses : Int) (ws : List Wn) (x0 x1 a0 a1 : ByteArray) (f0 f1 : List Fl) (b c gw : Nat) (A : Option Addr) (w : World)
    (hL : POwn F B w b ⟨⟨r, d, p, ws⟩, now, false, ses, ⟨x0, f0, a0⟩, ⟨x1, f1, a1⟩⟩ gw A c) (hB : B ≤ w.heap.size) (hnn : nn = now + 1) (hrg : 0 ≤ nn ∧ nn ≤ 10000000 ∧ 0 ≤ ses ∧ ses ≤ 1000000000) (hok : chkC ⟨r, d, p, ws⟩ = 0)
    (hm0 : a1.size + wayN f0 ≤ 1099511627776) (hm1 : a0.size + wayN f1 ≤ 1099511627776) :
    Calls Try.prog 51 #[.pointer (some ⟨b, 0, none⟩)] w fun e w' => e = .returned (.tuple #[]) ∧ POwn F B w' b (riseL (dlvL 2 ⟨⟨r, d, p, ws⟩, nn, false, ses, ⟨x0, f0, a0⟩, ⟨x1, f1, a1⟩⟩)) gw A c ∧ Keep F B w w' := by
  have hc5 : w.cell? ⟨b, 5, none⟩ = some (.bool false) := by obtain ⟨g0, g1, A0, A1, c0, c1, h1, _⟩ := hL; exact h1.blk.cell 5
  have hc4 : w.cell? ⟨b, 4, none⟩ = some (.int .i64 now) := by obtain ⟨g0, g1, A0, A1, c0, c1, h1, _⟩ := hL; exact h1.blk.cell 4
  have hf4 : w.frozen? ⟨b, 4, none⟩ = false := by obtain ⟨g0, g1, A0, A1, c0, c1, h1, _⟩ := hL; exact h1.blk.frozen 4
  have HBB := Lib.hid hB
  have HMM0 := Lib.hid hm0
  have HMM1 := Lib.hid hm1
  have HNN1 := Lib.hid hnn
  have HPK := Lib.hid (minute_step hnn hL)
  have HOK := Lib.hid hok
  have HRG := Lib.hid hrg
  have hnow : 0 ≤ now + 1 ∧ now + 1 ≤ 10000000 := by omega
  clear hL hB hm0 hm1 hnn hok hrg
  go_enter Try.func51, Try.ntmps51
  go_wp2
  clear hc5 hc4 hf4
  have HPB := Lib.hid HPK.out.1
  have HKB := Lib.hid HPK.out.2
  have HKN := Lib.hid HNN1.out
  go_wp2
  go_loopw [69] (fun kv wr => ∃ k : Nat, k ≤ 2 ∧ kv = .int .i64 k ∧ Hid (POwn F B wr b (dlvL k ⟨⟨r, d, p, ws⟩, nn, false, ses, ⟨x0, f0, a0⟩, ⟨x1, f1, a1⟩⟩) gw A c) ∧ Hid (Keep F B w wr)) (fun kv _ => 2 - (intOf kv).toNat)
  case atStart => exact ⟨0, by omega, rfl, Lib.hid (by rw [dk0]; exact HPB.out), HKB⟩
  case round =>
    obtain ⟨k, hk, rfl, HOWN', HKP0⟩ := hrel
    rcases (by omega : k = 0 ∨ k = 1 ∨ k = 2) with rfl | rfl | rfl
    · have HOWN := Lib.hid HOWN'.out
      rw [dk0] at HOWN
      clear HOWN'
      go_wp2
      go_loopw [96] (fun _ wr => ∃ (yy : List Fl) (zz : ByteArray), Hid (POwn F B wr b ⟨⟨r, d, p, ws⟩, nn, false, ses, ⟨x0, yy, a0⟩, ⟨x1, f1, zz⟩⟩ gw A c) ∧ Hid (dlvF nn f0 a1 = dlvF nn yy zz) ∧ Hid (zz.size + wayN yy ≤ 1099511627776) ∧ Hid (Keep F B w wr)) (fun _ wr => flN b 8 wr)
      case atStart => exact ⟨f0, a1, HOWN, Lib.hid rfl, HMM0, HKP0⟩
      case round =>
        obtain ⟨yy, zz, HP, HDV, HMZ, HKP⟩ := hrel
        obtain ⟨g0, g1, A0, A1, c0, c1, hln, hf1, hf2, hf3⟩ := HP.out
        have HFF := Lib.hid (And.intro hf1 (And.intro hf2 hf3))
        have HBS := Lib.hid (Nat.le_trans HBB.out HKP.out.size)
        clear hf1 hf2 hf3
        cases yy with
        | nil =>
          have HBL : Hid (Blk wr b 87 (L87 r d p A ws.length c nn false ses x0 A0 0 c0 a0 x1 A1 f1.length c1 zz).toArray) := Lib.hid hln.blk
          have HDV := Lib.hid (HDV.out.trans (show dlvF nn [] zz = ([], zz) from rfl))
          clear hln
          go_wp2
          refine wp_region_seq (nt := 158) (by kernel_rfl) [0,1,2,3,4,5,6,7,8,9,10,11,12,13,14,15,16,17,18,19] [] Rb Rb.refl Rb.trans [] (by kernel_rfl) (by simp) rfl (by kernel_rfl) (by simp) trivial ?_
          iterate 3 (refine' Sq.det (E := _) (b := _) (by rfl) (by rfl) (by rfl) (fun w' hR hf => ?_) ?_ ?_; rotate_left 2; (· (go_simp; first | done | with_reducible rfl)); (· (simp only [Act.put, List.setIfInBounds_toArray, List.set_cons_zero, List.set_cons_succ]; first | done | rfl)))
          (refine' Sq.det (E := _) (b := _) (by rfl) (by rfl) (by rfl) (fun w' hR hf => ?_) ?_ ?_; rotate_left 2; (· (have hc : w'.cell? ⟨b, 8, none⟩ = some (.slice A0 0 c0) := (HBL.out.below (below_undrew hR)).cell 8; go_simp; first | done | with_reducible rfl)); (· (simp only [Act.put, List.setIfInBounds_toArray, List.set_cons_zero, List.set_cons_succ]; first | done | rfl)))
          iterate 3 (refine' Sq.det (E := _) (b := _) (by rfl) (by rfl) (by rfl) (fun w' hR hf => ?_) ?_ ?_; rotate_left 2; (· (go_simp; first | done | with_reducible rfl)); (· (simp only [Act.put, List.setIfInBounds_toArray, List.set_cons_zero, List.set_cons_succ]; first | done | rfl)))
          iterate 12 (refine' Sq.skip (b := _) (by rfl) (by rfl) (by rfl) ?_ ?_; rotate_left 1; (· (simp only [Act.put, List.setIfInBounds_toArray, List.set_cons_zero, List.set_cons_succ]; first | done | rfl)))
          (refine' Sq.det (E := _) (b := _) (by rfl) (by rfl) (by rfl) (fun w' hR hf => ?_) ?_ ?_; rotate_left 2; (· (go_simp; first | done | with_reducible rfl)); (· (simp only [Act.put, List.setIfInBounds_toArray, List.set_cons_zero, List.set_cons_succ]; first | done | rfl)))
          refine Sq.done fun y6 hR _ => ?_
          have HY6 : Hid (Below wr.heap.size wr y6) := Lib.hid (below_undrew hR)
          clear hR
          go_wp2
          go_roundw
          case rel => exact ⟨1, by omega, by go_num, Lib.hid (by rw [dk1, HDV.out]; exact HP.out.below HY6.out), Lib.hid (HKP.out.trans (Keep.of_below HY6.out))⟩
          case measure => simp [intOf]
        | cons f yy =>
          obtain ⟨off, cur, hA, hcb, hcs, hcc⟩ := hln.t0.2.2 (Nat.lt_of_lt_of_le (by simp) hln.t0.1)
          subst hA
          obtain ⟨fat, ftx⟩ := f
          have HBL : Hid (Blk wr b 87 (L87 r d p A ws.length c nn false ses x0 (some ⟨g0, off, none⟩) (yy.length + 1) c0 a0 x1 A1 f1.length c1 zz).toArray) := Lib.hid hln.blk
          have hc0 : cur[off]? = some (.int .i64 fat) := by simpa using hcc 0 _ rfl
          have hc1 : cur[off + 1]? = some (.string ftx) := by simpa using hcc 1 _ rfl
          have HCU := Lib.hid (And.intro hcb (And.intro hc0 hc1))
          have HLN := Lib.hid hln
          clear hcb hcs hcc hc0 hc1 hln
          by_cases hle : fat ≤ nn
          · have HLE := Lib.hid hle
            clear hle
            go_wp2
            refine wp_region_seq (nt := 158) (by kernel_rfl) [0,1,2,3,4,5,6,7,8,9,10,11,12,13,14,15,16,17,18,19] [] Rb Rb.refl Rb.trans [] (by kernel_rfl) (by simp) rfl (by kernel_rfl) (by simp) trivial ?_
            iterate 3 (refine' Sq.det (E := _) (b := _) (by rfl) (by rfl) (by rfl) (fun w' hR hf => ?_) ?_ ?_; rotate_left 2; (· (go_simp; first | done | with_reducible rfl)); (· (simp only [Act.put, List.setIfInBounds_toArray, List.set_cons_zero, List.set_cons_succ]; first | done | rfl)))
            (refine' Sq.det (E := _) (b := _) (by rfl) (by rfl) (by rfl) (fun w' hR hf => ?_) ?_ ?_; rotate_left 2; (· (have hc : w'.cell? ⟨b, 8, none⟩ = some (.slice (some ⟨g0, off, none⟩) (yy.length + 1) c0) := (HBL.out.below (below_undrew hR)).cell 8; go_simp; first | done | with_reducible rfl)); (· (simp only [Act.put, List.setIfInBounds_toArray, List.set_cons_zero, List.set_cons_succ]; first | done | rfl)))
            iterate 3 (refine' Sq.det (E := _) (b := _) (by rfl) (by rfl) (by rfl) (fun w' hR hf => ?_) ?_ ?_; rotate_left 2; (· (go_simp; first | done | with_reducible rfl)); (· (simp only [Act.put, List.setIfInBounds_toArray, List.set_cons_zero, List.set_cons_succ]; first | done | rfl)))
            iterate 3 (refine' Sq.det (E := _) (b := _) (by rfl) (by rfl) (by rfl) (fun w' hR hf => ?_) ?_ ?_; rotate_left 2; (· (go_simp; first | done | with_reducible rfl)); (· (simp only [Act.put, List.setIfInBounds_toArray, List.set_cons_zero, List.set_cons_succ]; first | done | rfl)))
            (refine' Sq.det (E := _) (b := _) (by rfl) (by rfl) (by rfl) (fun w' hR hf => ?_) ?_ ?_; rotate_left 2; (· (have hc : w'.cell? ⟨b, 8, none⟩ = some (.slice (some ⟨g0, off, none⟩) (yy.length + 1) c0) := (HBL.out.below (below_undrew hR)).cell 8; go_simp; first | done | with_reducible rfl)); (· (simp only [Act.put, List.setIfInBounds_toArray, List.set_cons_zero, List.set_cons_succ]; first | done | rfl)))
            iterate 2 (refine' Sq.det (E := _) (b := _) (by rfl) (by rfl) (by rfl) (fun w' hR hf => ?_) ?_ ?_; rotate_left 2; (· (go_simp; first | done | with_reducible rfl)); (· (simp only [Act.put, List.setIfInBounds_toArray, List.set_cons_zero, List.set_cons_succ]; first | done | rfl)))
            (refine' Sq.det (E := _) (b := _) (by rfl) (by rfl) (by rfl) (fun w' hR hf => ?_) ?_ ?_; rotate_left 2; (· (have hc : w'.cell? ⟨g0, off, none⟩ = some (.int .i64 fat) := ((HCU.out.1.below (below_undrew hR)).cell off).trans HCU.out.2.1; go_simp; first | done | with_reducible rfl)); (· (simp only [Act.put, List.setIfInBounds_toArray, List.set_cons_zero, List.set_cons_succ]; first | done | rfl)))
            iterate 3 (refine' Sq.det (E := _) (b := _) (by rfl) (by rfl) (by rfl) (fun w' hR hf => ?_) ?_ ?_; rotate_left 2; (· (go_simp; first | done | with_reducible rfl)); (· (simp only [Act.put, List.setIfInBounds_toArray, List.set_cons_zero, List.set_cons_succ]; first | done | rfl)))
            (refine' Sq.det (E := _) (b := _) (by rfl) (by rfl) (by rfl) (fun w' hR hf => ?_) ?_ ?_; rotate_left 2; (· (have hc : w'.cell? ⟨b, 4, none⟩ = some (.int .i64 nn) := (HBL.out.below (below_undrew hR)).cell 4; go_simp; first | done | with_reducible rfl)); (· (simp only [Act.put, List.setIfInBounds_toArray, List.set_cons_zero, List.set_cons_succ]; first | done | rfl)))
            (refine' Sq.det (E := _) (b := _) (by rfl) (by rfl) (by rfl) (fun w' hR hf => ?_) ?_ ?_; rotate_left 2; (· (have hc : decide (fat ≤ nn) = true := (by simpa using HLE.out); go_simp; first | done | with_reducible rfl)); (· (simp only [Act.put, List.setIfInBounds_toArray, List.set_cons_zero, List.set_cons_succ]; first | done | rfl)))
            (refine' Sq.det (E := _) (b := _) (by rfl) (by rfl) (by rfl) (fun w' hR hf => ?_) ?_ ?_; rotate_left 2; (· (go_simp; first | done | with_reducible rfl)); (· (simp only [Act.put, List.setIfInBounds_toArray, List.set_cons_zero, List.set_cons_succ]; first | done | rfl)))
            refine Sq.done fun y6 hR _ => ?_
            have HY6 : Hid (Below wr.heap.size wr y6) := Lib.hid (below_undrew hR)
            clear hR
            have HBL6 := Lib.hid (HBL.out.below HY6.out)
            have HCU6 := Lib.hid (HCU.out.1.below HY6.out)
            go_wp2
            refine wp_region_seq (nt := 158) (by kernel_rfl) [0,1,2,3,4,5,6,7,8,9,10,11,12,13,14,15,16,17,18,19] [20] Rb Rb.refl Rb.trans [] (by kernel_rfl) (by simp) rfl (by kernel_rfl) (by simp) trivial ?_
            iterate 2 (refine' Sq.det (E := _) (b := _) (by rfl) (by rfl) (by rfl) (fun w' hR hf => ?_) ?_ ?_; rotate_left 2; (· (go_simp; first | done | with_reducible rfl)); (· (simp only [Act.put, List.setIfInBounds_toArray, List.set_cons_zero, List.set_cons_succ]; first | done | rfl)))
            (refine' Sq.det (E := _) (b := _) (by rfl) (by rfl) (by rfl) (fun w' hR hf => ?_) ?_ ?_; rotate_left 2; (· (have hc : IntKind.i64.wrap 1 = 1 := (by kernel_rfl); go_simp; first | done | with_reducible rfl)); (· (simp only [Act.put, List.setIfInBounds_toArray, List.set_cons_zero, List.set_cons_succ]; first | done | rfl)))
            iterate 4 (refine' Sq.det (E := _) (b := _) (by rfl) (by rfl) (by rfl) (fun w' hR hf => ?_) ?_ ?_; rotate_left 2; (· (go_simp; first | done | with_reducible rfl)); (· (simp only [Act.put, List.setIfInBounds_toArray, List.set_cons_zero, List.set_cons_succ]; first | done | rfl)))
            (refine' Sq.det (E := _) (b := _) (by rfl) (by rfl) (by rfl) (fun w' hR hf => ?_) ?_ ?_; rotate_left 2; (· (have hc : w'.cell? ⟨b, 12, none⟩ = some (.string zz) := (HBL6.out.below (below_undrew hR)).cell 12; go_simp; first | done | with_reducible rfl)); (· (simp only [Act.put, List.setIfInBounds_toArray, List.set_cons_zero, List.set_cons_succ]; first | done | rfl)))
            iterate 3 (refine' Sq.det (E := _) (b := _) (by rfl) (by rfl) (by rfl) (fun w' hR hf => ?_) ?_ ?_; rotate_left 2; (· (go_simp; first | done | with_reducible rfl)); (· (simp only [Act.put, List.setIfInBounds_toArray, List.set_cons_zero, List.set_cons_succ]; first | done | rfl)))
            (refine' Sq.det (E := _) (b := _) (by rfl) (by rfl) (by rfl) (fun w' hR hf => ?_) ?_ ?_; rotate_left 2; (· (have hc : w'.cell? ⟨b, 8, none⟩ = some (.slice (some ⟨g0, off, none⟩) (yy.length + 1) c0) := (HBL6.out.below (below_undrew hR)).cell 8; go_simp; first | done | with_reducible rfl)); (· (simp only [Act.put, List.setIfInBounds_toArray, List.set_cons_zero, List.set_cons_succ]; first | done | rfl)))
            iterate 2 (refine' Sq.det (E := _) (b := _) (by rfl) (by rfl) (by rfl) (fun w' hR hf => ?_) ?_ ?_; rotate_left 2; (· (go_simp; first | done | with_reducible rfl)); (· (simp only [Act.put, List.setIfInBounds_toArray, List.set_cons_zero, List.set_cons_succ]; first | done | rfl)))
            (refine' Sq.det (E := _) (b := _) (by rfl) (by rfl) (by rfl) (fun w' hR hf => ?_) ?_ ?_; rotate_left 2; (· (have hc : w'.cell? ⟨g0, off + 1, none⟩ = some (.string ftx) := ((HCU6.out.below (below_undrew hR)).cell (off + 1)).trans HCU.out.2.2; go_simp; first | done | with_reducible rfl)); (· (simp only [Act.put, List.setIfInBounds_toArray, List.set_cons_zero, List.set_cons_succ]; first | done | rfl)))
            (refine' Sq.det (E := _) (b := _) (by rfl) (by rfl) (by rfl) (fun w' hR hf => ?_) ?_ ?_; rotate_left 2; (· (have hq : ¬ 9223372036854775807 < zz.size + ftx.size := (by have := HMZ.out; rw [wayN_cons] at this; simp only at this; omega); go_simp; first | done | with_reducible rfl)); (· (simp only [Act.put, List.setIfInBounds_toArray, List.set_cons_zero, List.set_cons_succ]; first | done | rfl)))
            iterate 4 (refine' Sq.det (E := _) (b := _) (by rfl) (by rfl) (by rfl) (fun w' hR hf => ?_) ?_ ?_; rotate_left 2; (· (go_simp; first | done | with_reducible rfl)); (· (simp only [Act.put, List.setIfInBounds_toArray, List.set_cons_zero, List.set_cons_succ]; first | done | rfl)))
            refine Sq.tail1 (by rfl) fun y7 hR _ => ?_
            have HY7 : Hid (Below wr.heap.size wr y7) := Lib.hid (HY6.out.trans' (below_undrew hR))
            clear hR
            have HBL7 := Lib.hid (HBL.out.below HY7.out)
            have hc1 : y7.cell? ⟨b, 12, none⟩ = some (.string zz) := HBL7.out.cell 12
            have hf1 := HBL7.out.frozen 12
            have hc2 : y7.cell? ⟨b, 8, none⟩ = some (.slice (some ⟨g0, off, none⟩) (yy.length + 1) c0) := HBL7.out.cell 8
            have hf2 := HBL7.out.frozen 8
            have HMT : Hid ((zz ++ ftx).size + wayN yy ≤ 1099511627776) := Lib.hid (by have := HMZ.out; rw [wayN_cons] at this; simp only [ByteArray.size_append] at this ⊢; omega)
            have HCC := Lib.hid (show 1 ≤ c0 ∧ yy.length + 1 ≤ c0 from by have := HLN.out.t0.1; simp at this; omega)
            by_cases hcap : c0 = 1
            · have hyl : yy.length = 0 := by have := HCC.out; omega
              have HCAP := Lib.hid hcap
              have HYL := Lib.hid hyl
              rw [hcap, hyl] at hc2
              clear hyl hcap
              go_wp2
              go_roundw
              case rel => exact ⟨yy, zz ++ ftx, Lib.hid (dlv_fin0 HLN.out HFF.out.1 HFF.out.2.1 HFF.out.2.2 HY7.out (.inr HCAP.out) (by rw [HCAP.out, HYL.out])).1, Lib.hid (HDV.out.trans (dlvF_cons HLE.out)), HMT, Lib.hid (HKP.out.trans (dlv_fin0 HLN.out HFF.out.1 HFF.out.2.1 HFF.out.2.2 HY7.out (.inr HCAP.out) (by rw [HCAP.out, HYL.out])).2)⟩
              case measure => exact dlv_meas0 (dlv_fin0 HLN.out HFF.out.1 HFF.out.2.1 HFF.out.2.2 HY7.out (.inr HCAP.out) (by rw [HCAP.out, HYL.out])).1 (HBL.out.cell 8)
            · have hcg : 1 < c0 := by have := HCC.out; omega
              have HCG := Lib.hid hcg
              go_wp2
              go_roundw
              case rel => exact ⟨yy, zz ++ ftx, Lib.hid (dlv_fin0 HLN.out HFF.out.1 HFF.out.2.1 HFF.out.2.2 HY7.out (.inl rfl) rfl).1, Lib.hid (HDV.out.trans (dlvF_cons HLE.out)), HMT, Lib.hid (HKP.out.trans (dlv_fin0 HLN.out HFF.out.1 HFF.out.2.1 HFF.out.2.2 HY7.out (.inl rfl) rfl).2)⟩
              case measure => exact dlv_meas0 (dlv_fin0 HLN.out HFF.out.1 HFF.out.2.1 HFF.out.2.2 HY7.out (.inl rfl) rfl).1 (HBL.out.cell 8)
          · have HDV := Lib.hid (HDV.out.trans (dlvF_stop (f := ⟨fat, ftx⟩) (l := yy) (a := zz) hle))
            have HLE := Lib.hid hle
            clear hle
            go_wp2
            refine wp_region_seq (nt := 158) (by kernel_rfl) [0,1,2,3,4,5,6,7,8,9,10,11,12,13,14,15,16,17,18,19] [] Rb Rb.refl Rb.trans [] (by kernel_rfl) (by simp) rfl (by kernel_rfl) (by simp) trivial ?_
            iterate 3 (refine' Sq.det (E := _) (b := _) (by rfl) (by rfl) (by rfl) (fun w' hR hf => ?_) ?_ ?_; rotate_left 2; (· (go_simp; first | done | with_reducible rfl)); (· (simp only [Act.put, List.setIfInBounds_toArray, List.set_cons_zero, List.set_cons_succ]; first | done | rfl)))
            (refine' Sq.det (E := _) (b := _) (by rfl) (by rfl) (by rfl) (fun w' hR hf => ?_) ?_ ?_; rotate_left 2; (· (have hc : w'.cell? ⟨b, 8, none⟩ = some (.slice (some ⟨g0, off, none⟩) (yy.length + 1) c0) := (HBL.out.below (below_undrew hR)).cell 8; go_simp; first | done | with_reducible rfl)); (· (simp only [Act.put, List.setIfInBounds_toArray, List.set_cons_zero, List.set_cons_succ]; first | done | rfl)))
            iterate 3 (refine' Sq.det (E := _) (b := _) (by rfl) (by rfl) (by rfl) (fun w' hR hf => ?_) ?_ ?_; rotate_left 2; (· (go_simp; first | done | with_reducible rfl)); (· (simp only [Act.put, List.setIfInBounds_toArray, List.set_cons_zero, List.set_cons_succ]; first | done | rfl)))
            iterate 3 (refine' Sq.det (E := _) (b := _) (by rfl) (by rfl) (by rfl) (fun w' hR hf => ?_) ?_ ?_; rotate_left 2; (· (go_simp; first | done | with_reducible rfl)); (· (simp only [Act.put, List.setIfInBounds_toArray, List.set_cons_zero, List.set_cons_succ]; first | done | rfl)))
            (refine' Sq.det (E := _) (b := _) (by rfl) (by rfl) (by rfl) (fun w' hR hf => ?_) ?_ ?_; rotate_left 2; (· (have hc : w'.cell? ⟨b, 8, none⟩ = some (.slice (some ⟨g0, off, none⟩) (yy.length + 1) c0) := (HBL.out.below (below_undrew hR)).cell 8; go_simp; first | done | with_reducible rfl)); (· (simp only [Act.put, List.setIfInBounds_toArray, List.set_cons_zero, List.set_cons_succ]; first | done | rfl)))
            iterate 2 (refine' Sq.det (E := _) (b := _) (by rfl) (by rfl) (by rfl) (fun w' hR hf => ?_) ?_ ?_; rotate_left 2; (· (go_simp; first | done | with_reducible rfl)); (· (simp only [Act.put, List.setIfInBounds_toArray, List.set_cons_zero, List.set_cons_succ]; first | done | rfl)))
            (refine' Sq.det (E := _) (b := _) (by rfl) (by rfl) (by rfl) (fun w' hR hf => ?_) ?_ ?_; rotate_left 2; (· (have hc : w'.cell? ⟨g0, off, none⟩ = some (.int .i64 fat) := ((HCU.out.1.below (below_undrew hR)).cell off).trans HCU.out.2.1; go_simp; first | done | with_reducible rfl)); (· (simp only [Act.put, List.setIfInBounds_toArray, List.set_cons_zero, List.set_cons_succ]; first | done | rfl)))
            iterate 3 (refine' Sq.det (E := _) (b := _) (by rfl) (by rfl) (by rfl) (fun w' hR hf => ?_) ?_ ?_; rotate_left 2; (· (go_simp; first | done | with_reducible rfl)); (· (simp only [Act.put, List.setIfInBounds_toArray, List.set_cons_zero, List.set_cons_succ]; first | done | rfl)))
            (refine' Sq.det (E := _) (b := _) (by rfl) (by rfl) (by rfl) (fun w' hR hf => ?_) ?_ ?_; rotate_left 2; (· (have hc : w'.cell? ⟨b, 4, none⟩ = some (.int .i64 nn) := (HBL.out.below (below_undrew hR)).cell 4; go_simp; first | done | with_reducible rfl)); (· (simp only [Act.put, List.setIfInBounds_toArray, List.set_cons_zero, List.set_cons_succ]; first | done | rfl)))
            (refine' Sq.det (E := _) (b := _) (by rfl) (by rfl) (by rfl) (fun w' hR hf => ?_) ?_ ?_; rotate_left 2; (· (have hc : decide (fat ≤ nn) = false := (by simpa using HLE.out); go_simp; first | done | with_reducible rfl)); (· (simp only [Act.put, List.setIfInBounds_toArray, List.set_cons_zero, List.set_cons_succ]; first | done | rfl)))
            (refine' Sq.det (E := _) (b := _) (by rfl) (by rfl) (by rfl) (fun w' hR hf => ?_) ?_ ?_; rotate_left 2; (· (go_simp; first | done | with_reducible rfl)); (· (simp only [Act.put, List.setIfInBounds_toArray, List.set_cons_zero, List.set_cons_succ]; first | done | rfl)))
            refine Sq.done fun y6 hR _ => ?_
            have HY6 : Hid (Below wr.heap.size wr y6) := Lib.hid (below_undrew hR)
            clear hR
            go_wp2
            go_roundw
            case rel => exact ⟨1, by omega, by go_num, Lib.hid (by rw [dk1, HDV.out]; exact HP.out.below HY6.out), Lib.hid (HKP.out.trans (Keep.of_below HY6.out))⟩
            case measure => simp [intOf]
    · obtain ⟨⟨f0', a1'⟩, he0⟩ : ∃ e, dlvF nn f0 a1 = e := ⟨_, rfl⟩
      have HOWN := Lib.hid HOWN'.out
      rw [dk1, he0] at HOWN
      have HD0 := Lib.hid he0
      clear he0 HOWN'
      go_wp2
      go_loopw [96] (fun _ wr => ∃ (yy : List Fl) (zz : ByteArray), Hid (POwn F B wr b ⟨⟨r, d, p, ws⟩, nn, false, ses, ⟨x0, f0', zz⟩, ⟨x1, yy, a1'⟩⟩ gw A c) ∧ Hid (dlvF nn f1 a0 = dlvF nn yy zz) ∧ Hid (zz.size + wayN yy ≤ 1099511627776) ∧ Hid (Keep F B w wr)) (fun _ wr => flN b 11 wr)
      case atStart => exact ⟨f1, a0, HOWN, Lib.hid rfl, HMM1, HKP0⟩
      case round =>
        obtain ⟨yy, zz, HP, HDV, HMZ, HKP⟩ := hrel
        obtain ⟨g0, g1, A0, A1, c0, c1, hln, hf1, hf2, hf3⟩ := HP.out
        have HFF := Lib.hid (And.intro hf1 (And.intro hf2 hf3))
        have HBS := Lib.hid (Nat.le_trans HBB.out HKP.out.size)
        clear hf1 hf2 hf3
        cases yy with
        | nil =>
          have HBL : Hid (Blk wr b 87 (L87 r d p A ws.length c nn false ses x0 A0 f0'.length c0 zz x1 A1 0 c1 a1').toArray) := Lib.hid hln.blk
          have HDV := Lib.hid (HDV.out.trans (show dlvF nn [] zz = ([], zz) from rfl))
          clear hln
          go_wp2
          refine wp_region_seq (nt := 158) (by kernel_rfl) [0,1,2,3,4,5,6,7,8,9,10,11,12,13,14,15,16,17,18,19] [] Rb Rb.refl Rb.trans [] (by kernel_rfl) (by simp) rfl (by kernel_rfl) (by simp) trivial ?_
          iterate 3 (refine' Sq.det (E := _) (b := _) (by rfl) (by rfl) (by rfl) (fun w' hR hf => ?_) ?_ ?_; rotate_left 2; (· (go_simp; first | done | with_reducible rfl)); (· (simp only [Act.put, List.setIfInBounds_toArray, List.set_cons_zero, List.set_cons_succ]; first | done | rfl)))
          (refine' Sq.det (E := _) (b := _) (by rfl) (by rfl) (by rfl) (fun w' hR hf => ?_) ?_ ?_; rotate_left 2; (· (have hc : w'.cell? ⟨b, 11, none⟩ = some (.slice A1 0 c1) := (HBL.out.below (below_undrew hR)).cell 11; go_simp; first | done | with_reducible rfl)); (· (simp only [Act.put, List.setIfInBounds_toArray, List.set_cons_zero, List.set_cons_succ]; first | done | rfl)))
          iterate 3 (refine' Sq.det (E := _) (b := _) (by rfl) (by rfl) (by rfl) (fun w' hR hf => ?_) ?_ ?_; rotate_left 2; (· (go_simp; first | done | with_reducible rfl)); (· (simp only [Act.put, List.setIfInBounds_toArray, List.set_cons_zero, List.set_cons_succ]; first | done | rfl)))
          iterate 12 (refine' Sq.skip (b := _) (by rfl) (by rfl) (by rfl) ?_ ?_; rotate_left 1; (· (simp only [Act.put, List.setIfInBounds_toArray, List.set_cons_zero, List.set_cons_succ]; first | done | rfl)))
          (refine' Sq.det (E := _) (b := _) (by rfl) (by rfl) (by rfl) (fun w' hR hf => ?_) ?_ ?_; rotate_left 2; (· (go_simp; first | done | with_reducible rfl)); (· (simp only [Act.put, List.setIfInBounds_toArray, List.set_cons_zero, List.set_cons_succ]; first | done | rfl)))
          refine Sq.done fun y6 hR _ => ?_
          have HY6 : Hid (Below wr.heap.size wr y6) := Lib.hid (below_undrew hR)
          clear hR
          go_wp2
          go_roundw
          case rel => exact ⟨2, by omega, by go_num, Lib.hid (by rw [dk2, HD0.out, HDV.out]; exact HP.out.below HY6.out), Lib.hid (HKP.out.trans (Keep.of_below HY6.out))⟩
          case measure => simp [intOf]
        | cons f yy =>
          obtain ⟨off, cur, hA, hcb, hcs, hcc⟩ := hln.t1.2.2 (Nat.lt_of_lt_of_le (by simp) hln.t1.1)
          subst hA
          obtain ⟨fat, ftx⟩ := f
          have HBL : Hid (Blk wr b 87 (L87 r d p A ws.length c nn false ses x0 A0 f0'.length c0 zz x1 (some ⟨g1, off, none⟩) (yy.length + 1) c1 a1').toArray) := Lib.hid hln.blk
          have hc0 : cur[off]? = some (.int .i64 fat) := by simpa using hcc 0 _ rfl
          have hc1 : cur[off + 1]? = some (.string ftx) := by simpa using hcc 1 _ rfl
          have HCU := Lib.hid (And.intro hcb (And.intro hc0 hc1))
          have HLN := Lib.hid hln
          clear hcb hcs hcc hc0 hc1 hln
          by_cases hle : fat ≤ nn
          · have HLE := Lib.hid hle
            clear hle
            go_wp2
            refine wp_region_seq (nt := 158) (by kernel_rfl) [0,1,2,3,4,5,6,7,8,9,10,11,12,13,14,15,16,17,18,19] [] Rb Rb.refl Rb.trans [] (by kernel_rfl) (by simp) rfl (by kernel_rfl) (by simp) trivial ?_
            iterate 3 (refine' Sq.det (E := _) (b := _) (by rfl) (by rfl) (by rfl) (fun w' hR hf => ?_) ?_ ?_; rotate_left 2; (· (go_simp; first | done | with_reducible rfl)); (· (simp only [Act.put, List.setIfInBounds_toArray, List.set_cons_zero, List.set_cons_succ]; first | done | rfl)))
            (refine' Sq.det (E := _) (b := _) (by rfl) (by rfl) (by rfl) (fun w' hR hf => ?_) ?_ ?_; rotate_left 2; (· (have hc : w'.cell? ⟨b, 11, none⟩ = some (.slice (some ⟨g1, off, none⟩) (yy.length + 1) c1) := (HBL.out.below (below_undrew hR)).cell 11; go_simp; first | done | with_reducible rfl)); (· (simp only [Act.put, List.setIfInBounds_toArray, List.set_cons_zero, List.set_cons_succ]; first | done | rfl)))
            iterate 3 (refine' Sq.det (E := _) (b := _) (by rfl) (by rfl) (by rfl) (fun w' hR hf => ?_) ?_ ?_; rotate_left 2; (· (go_simp; first | done | with_reducible rfl)); (· (simp only [Act.put, List.setIfInBounds_toArray, List.set_cons_zero, List.set_cons_succ]; first | done | rfl)))
            iterate 3 (refine' Sq.det (E := _) (b := _) (by rfl) (by rfl) (by rfl) (fun w' hR hf => ?_) ?_ ?_; rotate_left 2; (· (go_simp; first | done | with_reducible rfl)); (· (simp only [Act.put, List.setIfInBounds_toArray, List.set_cons_zero, List.set_cons_succ]; first | done | rfl)))
            (refine' Sq.det (E := _) (b := _) (by rfl) (by rfl) (by rfl) (fun w' hR hf => ?_) ?_ ?_; rotate_left 2; (· (have hc : w'.cell? ⟨b, 11, none⟩ = some (.slice (some ⟨g1, off, none⟩) (yy.length + 1) c1) := (HBL.out.below (below_undrew hR)).cell 11; go_simp; first | done | with_reducible rfl)); (· (simp only [Act.put, List.setIfInBounds_toArray, List.set_cons_zero, List.set_cons_succ]; first | done | rfl)))
            iterate 2 (refine' Sq.det (E := _) (b := _) (by rfl) (by rfl) (by rfl) (fun w' hR hf => ?_) ?_ ?_; rotate_left 2; (· (go_simp; first | done | with_reducible rfl)); (· (simp only [Act.put, List.setIfInBounds_toArray, List.set_cons_zero, List.set_cons_succ]; first | done | rfl)))
            (refine' Sq.det (E := _) (b := _) (by rfl) (by rfl) (by rfl) (fun w' hR hf => ?_) ?_ ?_; rotate_left 2; (· (have hc : w'.cell? ⟨g1, off, none⟩ = some (.int .i64 fat) := ((HCU.out.1.below (below_undrew hR)).cell off).trans HCU.out.2.1; go_simp; first | done | with_reducible rfl)); (· (simp only [Act.put, List.setIfInBounds_toArray, List.set_cons_zero, List.set_cons_succ]; first | done | rfl)))
            iterate 3 (refine' Sq.det (E := _) (b := _) (by rfl) (by rfl) (by rfl) (fun w' hR hf => ?_) ?_ ?_; rotate_left 2; (· (go_simp; first | done | with_reducible rfl)); (· (simp only [Act.put, List.setIfInBounds_toArray, List.set_cons_zero, List.set_cons_succ]; first | done | rfl)))
            (refine' Sq.det (E := _) (b := _) (by rfl) (by rfl) (by rfl) (fun w' hR hf => ?_) ?_ ?_; rotate_left 2; (· (have hc : w'.cell? ⟨b, 4, none⟩ = some (.int .i64 nn) := (HBL.out.below (below_undrew hR)).cell 4; go_simp; first | done | with_reducible rfl)); (· (simp only [Act.put, List.setIfInBounds_toArray, List.set_cons_zero, List.set_cons_succ]; first | done | rfl)))
            (refine' Sq.det (E := _) (b := _) (by rfl) (by rfl) (by rfl) (fun w' hR hf => ?_) ?_ ?_; rotate_left 2; (· (have hc : decide (fat ≤ nn) = true := (by simpa using HLE.out); go_simp; first | done | with_reducible rfl)); (· (simp only [Act.put, List.setIfInBounds_toArray, List.set_cons_zero, List.set_cons_succ]; first | done | rfl)))
            (refine' Sq.det (E := _) (b := _) (by rfl) (by rfl) (by rfl) (fun w' hR hf => ?_) ?_ ?_; rotate_left 2; (· (go_simp; first | done | with_reducible rfl)); (· (simp only [Act.put, List.setIfInBounds_toArray, List.set_cons_zero, List.set_cons_succ]; first | done | rfl)))
            refine Sq.done fun y6 hR _ => ?_
            have HY6 : Hid (Below wr.heap.size wr y6) := Lib.hid (below_undrew hR)
            clear hR
            have HBL6 := Lib.hid (HBL.out.below HY6.out)
            have HCU6 := Lib.hid (HCU.out.1.below HY6.out)
            go_wp2
            refine wp_region_seq (nt := 158) (by kernel_rfl) [0,1,2,3,4,5,6,7,8,9,10,11,12,13,14,15,16,17,18,19] [20] Rb Rb.refl Rb.trans [] (by kernel_rfl) (by simp) rfl (by kernel_rfl) (by simp) trivial ?_
            iterate 2 (refine' Sq.det (E := _) (b := _) (by rfl) (by rfl) (by rfl) (fun w' hR hf => ?_) ?_ ?_; rotate_left 2; (· (go_simp; first | done | with_reducible rfl)); (· (simp only [Act.put, List.setIfInBounds_toArray, List.set_cons_zero, List.set_cons_succ]; first | done | rfl)))
            (refine' Sq.det (E := _) (b := _) (by rfl) (by rfl) (by rfl) (fun w' hR hf => ?_) ?_ ?_; rotate_left 2; (· (have hc : IntKind.i64.wrap 0 = 0 := (by kernel_rfl); go_simp; first | done | with_reducible rfl)); (· (simp only [Act.put, List.setIfInBounds_toArray, List.set_cons_zero, List.set_cons_succ]; first | done | rfl)))
            iterate 4 (refine' Sq.det (E := _) (b := _) (by rfl) (by rfl) (by rfl) (fun w' hR hf => ?_) ?_ ?_; rotate_left 2; (· (go_simp; first | done | with_reducible rfl)); (· (simp only [Act.put, List.setIfInBounds_toArray, List.set_cons_zero, List.set_cons_succ]; first | done | rfl)))
            (refine' Sq.det (E := _) (b := _) (by rfl) (by rfl) (by rfl) (fun w' hR hf => ?_) ?_ ?_; rotate_left 2; (· (have hc : w'.cell? ⟨b, 9, none⟩ = some (.string zz) := (HBL6.out.below (below_undrew hR)).cell 9; go_simp; first | done | with_reducible rfl)); (· (simp only [Act.put, List.setIfInBounds_toArray, List.set_cons_zero, List.set_cons_succ]; first | done | rfl)))
            iterate 3 (refine' Sq.det (E := _) (b := _) (by rfl) (by rfl) (by rfl) (fun w' hR hf => ?_) ?_ ?_; rotate_left 2; (· (go_simp; first | done | with_reducible rfl)); (· (simp only [Act.put, List.setIfInBounds_toArray, List.set_cons_zero, List.set_cons_succ]; first | done | rfl)))
            (refine' Sq.det (E := _) (b := _) (by rfl) (by rfl) (by rfl) (fun w' hR hf => ?_) ?_ ?_; rotate_left 2; (· (have hc : w'.cell? ⟨b, 11, none⟩ = some (.slice (some ⟨g1, off, none⟩) (yy.length + 1) c1) := (HBL6.out.below (below_undrew hR)).cell 11; go_simp; first | done | with_reducible rfl)); (· (simp only [Act.put, List.setIfInBounds_toArray, List.set_cons_zero, List.set_cons_succ]; first | done | rfl)))
            iterate 2 (refine' Sq.det (E := _) (b := _) (by rfl) (by rfl) (by rfl) (fun w' hR hf => ?_) ?_ ?_; rotate_left 2; (· (go_simp; first | done | with_reducible rfl)); (· (simp only [Act.put, List.setIfInBounds_toArray, List.set_cons_zero, List.set_cons_succ]; first | done | rfl)))
            (refine' Sq.det (E := _) (b := _) (by rfl) (by rfl) (by rfl) (fun w' hR hf => ?_) ?_ ?_; rotate_left 2; (· (have hc : w'.cell? ⟨g1, off + 1, none⟩ = some (.string ftx) := ((HCU6.out.below (below_undrew hR)).cell (off + 1)).trans HCU.out.2.2; go_simp; first | done | with_reducible rfl)); (· (simp only [Act.put, List.setIfInBounds_toArray, List.set_cons_zero, List.set_cons_succ]; first | done | rfl)))
            (refine' Sq.det (E := _) (b := _) (by rfl) (by rfl) (by rfl) (fun w' hR hf => ?_) ?_ ?_; rotate_left 2; (· (have hq : ¬ 9223372036854775807 < zz.size + ftx.size := (by have := HMZ.out; rw [wayN_cons] at this; simp only at this; omega); go_simp; first | done | with_reducible rfl)); (· (simp only [Act.put, List.setIfInBounds_toArray, List.set_cons_zero, List.set_cons_succ]; first | done | rfl)))
            iterate 4 (refine' Sq.det (E := _) (b := _) (by rfl) (by rfl) (by rfl) (fun w' hR hf => ?_) ?_ ?_; rotate_left 2; (· (go_simp; first | done | with_reducible rfl)); (· (simp only [Act.put, List.setIfInBounds_toArray, List.set_cons_zero, List.set_cons_succ]; first | done | rfl)))
            refine Sq.tail1 (by rfl) fun y7 hR _ => ?_
            have HY7 : Hid (Below wr.heap.size wr y7) := Lib.hid (HY6.out.trans' (below_undrew hR))
            clear hR
            have HBL7 := Lib.hid (HBL.out.below HY7.out)
            have hc1 : y7.cell? ⟨b, 9, none⟩ = some (.string zz) := HBL7.out.cell 9
            have hf1 := HBL7.out.frozen 9
            have hc2 : y7.cell? ⟨b, 11, none⟩ = some (.slice (some ⟨g1, off, none⟩) (yy.length + 1) c1) := HBL7.out.cell 11
            have hf2 := HBL7.out.frozen 11
            have HMT : Hid ((zz ++ ftx).size + wayN yy ≤ 1099511627776) := Lib.hid (by have := HMZ.out; rw [wayN_cons] at this; simp only [ByteArray.size_append] at this ⊢; omega)
            have HCC := Lib.hid (show 1 ≤ c1 ∧ yy.length + 1 ≤ c1 from by have := HLN.out.t1.1; simp at this; omega)
            by_cases hcap : c1 = 1
            · have hyl : yy.length = 0 := by have := HCC.out; omega
              have HCAP := Lib.hid hcap
              have HYL := Lib.hid hyl
              rw [hcap, hyl] at hc2
              clear hyl hcap
              go_wp2
              go_roundw
              case rel => exact ⟨yy, zz ++ ftx, Lib.hid (dlv_fin1 HLN.out HFF.out.1 HFF.out.2.1 HFF.out.2.2 HY7.out (.inr HCAP.out) (by rw [HCAP.out, HYL.out])).1, Lib.hid (HDV.out.trans (dlvF_cons HLE.out)), HMT, Lib.hid (HKP.out.trans (dlv_fin1 HLN.out HFF.out.1 HFF.out.2.1 HFF.out.2.2 HY7.out (.inr HCAP.out) (by rw [HCAP.out, HYL.out])).2)⟩
              case measure => exact dlv_meas1 (dlv_fin1 HLN.out HFF.out.1 HFF.out.2.1 HFF.out.2.2 HY7.out (.inr HCAP.out) (by rw [HCAP.out, HYL.out])).1 (HBL.out.cell 11)
            · have hcg : 1 < c1 := by have := HCC.out; omega
              have HCG := Lib.hid hcg
              go_wp2
              go_roundw
              case rel => exact ⟨yy, zz ++ ftx, Lib.hid (dlv_fin1 HLN.out HFF.out.1 HFF.out.2.1 HFF.out.2.2 HY7.out (.inl rfl) rfl).1, Lib.hid (HDV.out.trans (dlvF_cons HLE.out)), HMT, Lib.hid (HKP.out.trans (dlv_fin1 HLN.out HFF.out.1 HFF.out.2.1 HFF.out.2.2 HY7.out (.inl rfl) rfl).2)⟩
              case measure => exact dlv_meas1 (dlv_fin1 HLN.out HFF.out.1 HFF.out.2.1 HFF.out.2.2 HY7.out (.inl rfl) rfl).1 (HBL.out.cell 11)
          · have HDV := Lib.hid (HDV.out.trans (dlvF_stop (f := ⟨fat, ftx⟩) (l := yy) (a := zz) hle))
            have HLE := Lib.hid hle
            clear hle
            go_wp2
            refine wp_region_seq (nt := 158) (by kernel_rfl) [0,1,2,3,4,5,6,7,8,9,10,11,12,13,14,15,16,17,18,19] [] Rb Rb.refl Rb.trans [] (by kernel_rfl) (by simp) rfl (by kernel_rfl) (by simp) trivial ?_
            iterate 3 (refine' Sq.det (E := _) (b := _) (by rfl) (by rfl) (by rfl) (fun w' hR hf => ?_) ?_ ?_; rotate_left 2; (· (go_simp; first | done | with_reducible rfl)); (· (simp only [Act.put, List.setIfInBounds_toArray, List.set_cons_zero, List.set_cons_succ]; first | done | rfl)))
            (refine' Sq.det (E := _) (b := _) (by rfl) (by rfl) (by rfl) (fun w' hR hf => ?_) ?_ ?_; rotate_left 2; (· (have hc : w'.cell? ⟨b, 11, none⟩ = some (.slice (some ⟨g1, off, none⟩) (yy.length + 1) c1) := (HBL.out.below (below_undrew hR)).cell 11; go_simp; first | done | with_reducible rfl)); (· (simp only [Act.put, List.setIfInBounds_toArray, List.set_cons_zero, List.set_cons_succ]; first | done | rfl)))
            iterate 3 (refine' Sq.det (E := _) (b := _) (by rfl) (by rfl) (by rfl) (fun w' hR hf => ?_) ?_ ?_; rotate_left 2; (· (go_simp; first | done | with_reducible rfl)); (· (simp only [Act.put, List.setIfInBounds_toArray, List.set_cons_zero, List.set_cons_succ]; first | done | rfl)))
            iterate 3 (refine' Sq.det (E := _) (b := _) (by rfl) (by rfl) (by rfl) (fun w' hR hf => ?_) ?_ ?_; rotate_left 2; (· (go_simp; first | done | with_reducible rfl)); (· (simp only [Act.put, List.setIfInBounds_toArray, List.set_cons_zero, List.set_cons_succ]; first | done | rfl)))
            (refine' Sq.det (E := _) (b := _) (by rfl) (by rfl) (by rfl) (fun w' hR hf => ?_) ?_ ?_; rotate_left 2; (· (have hc : w'.cell? ⟨b, 11, none⟩ = some (.slice (some ⟨g1, off, none⟩) (yy.length + 1) c1) := (HBL.out.below (below_undrew hR)).cell 11; go_simp; first | done | with_reducible rfl)); (· (simp only [Act.put, List.setIfInBounds_toArray, List.set_cons_zero, List.set_cons_succ]; first | done | rfl)))
            iterate 2 (refine' Sq.det (E := _) (b := _) (by rfl) (by rfl) (by rfl) (fun w' hR hf => ?_) ?_ ?_; rotate_left 2; (· (go_simp; first | done | with_reducible rfl)); (· (simp only [Act.put, List.setIfInBounds_toArray, List.set_cons_zero, List.set_cons_succ]; first | done | rfl)))
            (refine' Sq.det (E := _) (b := _) (by rfl) (by rfl) (by rfl) (fun w' hR hf => ?_) ?_ ?_; rotate_left 2; (· (have hc : w'.cell? ⟨g1, off, none⟩ = some (.int .i64 fat) := ((HCU.out.1.below (below_undrew hR)).cell off).trans HCU.out.2.1; go_simp; first | done | with_reducible rfl)); (· (simp only [Act.put, List.setIfInBounds_toArray, List.set_cons_zero, List.set_cons_succ]; first | done | rfl)))
            iterate 3 (refine' Sq.det (E := _) (b := _) (by rfl) (by rfl) (by rfl) (fun w' hR hf => ?_) ?_ ?_; rotate_left 2; (· (go_simp; first | done | with_reducible rfl)); (· (simp only [Act.put, List.setIfInBounds_toArray, List.set_cons_zero, List.set_cons_succ]; first | done | rfl)))
            (refine' Sq.det (E := _) (b := _) (by rfl) (by rfl) (by rfl) (fun w' hR hf => ?_) ?_ ?_; rotate_left 2; (· (have hc : w'.cell? ⟨b, 4, none⟩ = some (.int .i64 nn) := (HBL.out.below (below_undrew hR)).cell 4; go_simp; first | done | with_reducible rfl)); (· (simp only [Act.put, List.setIfInBounds_toArray, List.set_cons_zero, List.set_cons_succ]; first | done | rfl)))
            (refine' Sq.det (E := _) (b := _) (by rfl) (by rfl) (by rfl) (fun w' hR hf => ?_) ?_ ?_; rotate_left 2; (· (have hc : decide (fat ≤ nn) = false := (by simpa using HLE.out); go_simp; first | done | with_reducible rfl)); (· (simp only [Act.put, List.setIfInBounds_toArray, List.set_cons_zero, List.set_cons_succ]; first | done | rfl)))
            (refine' Sq.det (E := _) (b := _) (by rfl) (by rfl) (by rfl) (fun w' hR hf => ?_) ?_ ?_; rotate_left 2; (· (go_simp; first | done | with_reducible rfl)); (· (simp only [Act.put, List.setIfInBounds_toArray, List.set_cons_zero, List.set_cons_succ]; first | done | rfl)))
            refine Sq.done fun y6 hR _ => ?_
            have HY6 : Hid (Below wr.heap.size wr y6) := Lib.hid (below_undrew hR)
            clear hR
            go_wp2
            go_roundw
            case rel => exact ⟨2, by omega, by go_num, Lib.hid (by rw [dk2, HD0.out, HDV.out]; exact HP.out.below HY6.out), Lib.hid (HKP.out.trans (Keep.of_below HY6.out))⟩
            case measure => simp [intOf]
    · obtain ⟨⟨f0', a1'⟩, he0⟩ : ∃ e, dlvF nn f0 a1 = e := ⟨_, rfl⟩
      obtain ⟨⟨f1', a0'⟩, he1⟩ : ∃ e, dlvF nn f1 a0 = e := ⟨_, rfl⟩
      have HOWN := Lib.hid HOWN'.out
      rw [dk2, he0, he1] at HOWN
      have HE0 := Lib.hid he0
      have HE1 := Lib.hid he1
      obtain ⟨g0, g1, A0, A1, c0, c1, hln, hf1, hf2, hf3⟩ := HOWN.out
      have HLN := Lib.hid hln
      have HFF := Lib.hid (And.intro hf1 (And.intro hf2 hf3))
      obtain ⟨⟨⟨lo, hi⟩, bs, ok⟩, hwc⟩ : ∃ e, winC ⟨r, d, p, ws⟩ nn = e := ⟨_, rfl⟩
      have HW := Lib.hid (fun (w' : World) (hb : Below wr.heap.size wr w') => (show Calls Try.prog 53 #[.agg #[.int .i64 r, .int .i64 d, .int .i64 p, .slice A ws.length c], .int .i64 nn] w' fun e w2 => e = .returned (.tuple #[.agg #[.int .i64 lo, .int .i64 hi], .int .i64 bs, .bool ok]) ∧ Below w'.heap.size w' w2 from by
        have := window_any ⟨r, d, p, ws⟩ nn gw c A w' (HLN.out.rw_.below hb) (by have := (chk_ok HOK.out).2.1; simp only at this ⊢; omega) (chk_per HOK.out).1 HRG.out.1 (by have := HRG.out.2.1; omega)
        rw [hwc] at this
        exact this))
      have HWC := Lib.hid hwc
      clear he0 he1 HOWN' HOWN hln hf1 hf2 hf3 hwc
      have LN : Hid (Blk wr b 87 (L87 r d p A ws.length c nn false ses x0 A0 f0'.length c0 a0' x1 A1 f1'.length c1 a1').toArray) := Lib.hid HLN.out.blk
      go_wp2
      cases ok
      · refine wp_region_seqX (nt := 158) (by kernel_rfl) ⟨Rb, some 14, fun j => Nat.beq j 13, PC62 wr.heap.size ⟨lo, hi⟩ 13⟩ [0,1,2,3,4,5,6,7,8,9,10,11,12,13,14,15,16] [] (Rv wr.heap.size 62 F62) Rv.refl Rb.refl Rv.of_rb Rv.trans [(8, fun v _ => v = .tuple #[.agg #[.int .i64 lo, .int .i64 hi], .int .i64 bs, .bool false]), (13, fun v w' => ∃ q, v = .pointer (some ⟨q, 0, none⟩) ∧ wr.heap.size ≤ q ∧ Blk w' q 62 #[.int .i64 0, .int .i64 0]), (14, fun _ _ => True)] (by kernel_rfl) (by simp) rfl (by kernel_rfl) (by simp) ?_ ?_ ?_ ?_
        · rintro f w' w2 _ h2 ⟨q, e1, e2, h⟩
          exact ⟨q, e1, e2, h.below h2⟩
        · intro i hi
          obtain rfl : 14 = i := by simpa [Ext.at] using hi
          rfl
        · refine ⟨fun v w w' h0 h2 h => h, fun v w1 w2 h0 h2 h => ?_, fun _ _ _ _ _ h => h, trivial⟩
          rcases h2 with h2 | h2
          · exact absurd h2.1.1 (fun h => by cases h)
          · obtain ⟨q, e, hq, hb⟩ := h
            exact ⟨q, e, hq, hb.below h2⟩
        iterate 3 (refine' Sq.det (E := _) (b := _) (by rfl) (by rfl) (by rfl) (fun w' hR hf => ?_) ?_ ?_; rotate_left 2; (· (go_simp; first | done | with_reducible rfl)); (· (simp only [Act.put, List.setIfInBounds_toArray, List.set_cons_zero, List.set_cons_succ]; first | done | rfl)))
        (refine' Sq.det (E := _) (b := _) (by rfl) (by rfl) (by rfl) (fun w' hR hf => ?_) ?_ ?_; rotate_left 2; (· (refine exec_load_cells 35 _ b 0 [.int .i64 r, .int .i64 d, .int .i64 p, .slice A ws.length c] ?_ _ Try.underlying35 rfl info35 (fun j u hu => ?_); (· kernel_rfl); (rw [Nat.zero_add, (LN.out.below (rv_below hR)).cell, List.getElem?_toArray]; exact pre4 hu))); (· (simp only [Act.put, List.setIfInBounds_toArray, List.set_cons_zero, List.set_cons_succ]; first | done | rfl)))
        iterate 3 (refine' Sq.det (E := _) (b := _) (by rfl) (by rfl) (by rfl) (fun w' hR hf => ?_) ?_ ?_; rotate_left 2; (· (go_simp; first | done | with_reducible rfl)); (· (simp only [Act.put, List.setIfInBounds_toArray, List.set_cons_zero, List.set_cons_succ]; first | done | rfl)))
        (refine' Sq.det (E := _) (b := _) (by rfl) (by rfl) (by rfl) (fun w' hR hf => ?_) ?_ ?_; rotate_left 2; (· (have hc : w'.cell? ⟨b, 4, none⟩ = some (.int .i64 nn) := (LN.out.below (rv_below hR)).cell 4; go_simp; first | done | with_reducible rfl)); (· (simp only [Act.put, List.setIfInBounds_toArray, List.set_cons_zero, List.set_cons_succ]; first | done | rfl)))
        (refine' Sq.anyX (f := _) (by rfl) (by rfl) (by rfl) (by rfl) (fun w' hR hf => ?_) (fun v => ?_) (fun v8 => ?_); (· (go_wp2_with (go_at_call 53; refine (HW.out w' (rv_below hR)).mono ?_; rintro e w1 ⟨he, hb1⟩; subst he); exact hb1)); rotate_left 1; (· (simp only [Act.put, List.setIfInBounds_toArray, List.set_cons_zero, List.set_cons_succ]; first | done | rfl)))
        (refine' Sq.det (E := _) (b := _) (by rfl) (by rfl) (by rfl) (fun w' hR hf => ?_) ?_ ?_; rotate_left 2; (· (obtain rfl : v8 = .tuple #[.agg #[.int .i64 lo, .int .i64 hi], .int .i64 bs, .bool false] := hf 8 (by decide) _ rfl; go_simp; first | done | with_reducible rfl)); (· (simp only [Act.put, List.setIfInBounds_toArray, List.set_cons_zero, List.set_cons_succ]; first | done | rfl)))
        iterate 3 (refine' Sq.det (E := _) (b := _) (by rfl) (by rfl) (by rfl) (fun w' hR hf => ?_) ?_ ?_; rotate_left 2; (· (go_simp; first | done | with_reducible rfl)); (· (simp only [Act.put, List.setIfInBounds_toArray, List.set_cons_zero, List.set_cons_succ]; first | done | rfl)))
        (refine' Sq.anyX (f := _) (by rfl) (by rfl) (by rfl) (by rfl) (fun w' hR hf => ?_) (fun v => ?_) (fun v13 => ?_); (· (refine wp_alloc_blk 62 rfl z62 [.int .i64 0, .int .i64 0] rfl z62z ?_; intro w1 hk1 hk2; exact ⟨rfl, hk2, _, rfl, (rv_below hR).size, hk1⟩)); rotate_left 1; (· (simp only [Act.put, List.setIfInBounds_toArray, List.set_cons_zero, List.set_cons_succ]; first | done | rfl)))
        (refine' Sq.store (by rfl) (by rfl) (by rfl) (by rfl) (fun w' hR hf => ?_) ?_; (· (obtain ⟨q, hq, hqB, hbq⟩ : ∃ q, v13 = .pointer (some ⟨q, 0, none⟩) ∧ wr.heap.size ≤ q ∧ Blk w' q 62 #[.int .i64 0, .int .i64 0] := hf 13 (by decide) _ rfl; subst hq; refine wp_store_blk 62 _ _ rfl q 0 62 [.int .i64 0, .int .i64 0] (winc ⟨lo, hi⟩) hbq (by kernel_rfl) (by kernel_rfl) size62 (by simp [winc]) (by simp [winc, Value.oneCell']) ?_; intro w1 hn1 hg1 _; refine ⟨rfl, Rv.store hbq ⟨_, _, rfl⟩ hqB hg1, ?_⟩; exact ⟨q, rfl, hqB, by simpa [winc] using hn1⟩)))
        iterate 2 (refine' Sq.det (E := _) (b := _) (by rfl) (by rfl) (by rfl) (fun w' hR hf => ?_) ?_ ?_; rotate_left 2; (· (go_simp; first | done | with_reducible rfl)); (· (simp only [Act.put, List.setIfInBounds_toArray, List.set_cons_zero, List.set_cons_succ]; first | done | rfl)))
        refine Sq.doneX fun w4 hR hp hpc => ?_
        have HB4 := Lib.hid (rv_below hR)
        obtain ⟨q, e1, _, hbq⟩ := hpc 14 (by decide) rfl
        obtain rfl : v13 = .pointer (some ⟨q, 0, none⟩) := e1
        have HQ := Lib.hid hbq
        clear hp hpc hR hbq
        have hc5 : w4.cell? ⟨b, 5, none⟩ = some (.bool false) := (LN.out.below HB4.out).cell 5
        have HLN4 := Lib.hid (HLN.out.below HB4.out)
        go_wp2_with (go_at_call 42; (refine (rise_any HLN4.out HOK.out HRG.out.1 HRG.out.2.1 HRG.out.2.2.1 HRG.out.2.2.2).mono ?_; rintro e w5 ⟨rfl, h1, h2⟩; have H1 := Lib.hid h1; have H2 := Lib.hid h2; clear h1 h2))
        first | go_end0 | refine bodyPost_ret (results_none rfl _ _ _) rfl ?_
        exact ⟨rfl, by rw [dk2, HE0.out, HE1.out]; exact ⟨_, _, _, _, _, _, H1.out, HFF.out⟩, (HKP0.out.trans (Keep.of_below HB4.out)).trans (Keep.of_grown H2.out HFF.out.1)⟩
      · refine wp_region_seqX (nt := 158) (by kernel_rfl) ⟨Rb, some 14, fun j => Nat.beq j 13, PC62 wr.heap.size ⟨lo, hi⟩ 13⟩ [0,1,2,3,4,5,6,7,8,9,10,11,12,13,14,15,16] [] (Rv wr.heap.size 62 F62) Rv.refl Rb.refl Rv.of_rb Rv.trans [(8, fun v _ => v = .tuple #[.agg #[.int .i64 lo, .int .i64 hi], .int .i64 bs, .bool true]), (13, fun v w' => ∃ q, v = .pointer (some ⟨q, 0, none⟩) ∧ wr.heap.size ≤ q ∧ Blk w' q 62 #[.int .i64 0, .int .i64 0]), (14, fun _ _ => True)] (by kernel_rfl) (by simp) rfl (by kernel_rfl) (by simp) ?_ ?_ ?_ ?_
        · rintro f w' w2 _ h2 ⟨q, e1, e2, h⟩
          exact ⟨q, e1, e2, h.below h2⟩
        · intro i hi
          obtain rfl : 14 = i := by simpa [Ext.at] using hi
          rfl
        · refine ⟨fun v w w' h0 h2 h => h, fun v w1 w2 h0 h2 h => ?_, fun _ _ _ _ _ h => h, trivial⟩
          rcases h2 with h2 | h2
          · exact absurd h2.1.1 (fun h => by cases h)
          · obtain ⟨q, e, hq, hb⟩ := h
            exact ⟨q, e, hq, hb.below h2⟩
        iterate 3 (refine' Sq.det (E := _) (b := _) (by rfl) (by rfl) (by rfl) (fun w' hR hf => ?_) ?_ ?_; rotate_left 2; (· (go_simp; first | done | with_reducible rfl)); (· (simp only [Act.put, List.setIfInBounds_toArray, List.set_cons_zero, List.set_cons_succ]; first | done | rfl)))
        (refine' Sq.det (E := _) (b := _) (by rfl) (by rfl) (by rfl) (fun w' hR hf => ?_) ?_ ?_; rotate_left 2; (· (refine exec_load_cells 35 _ b 0 [.int .i64 r, .int .i64 d, .int .i64 p, .slice A ws.length c] ?_ _ Try.underlying35 rfl info35 (fun j u hu => ?_); (· kernel_rfl); (rw [Nat.zero_add, (LN.out.below (rv_below hR)).cell, List.getElem?_toArray]; exact pre4 hu))); (· (simp only [Act.put, List.setIfInBounds_toArray, List.set_cons_zero, List.set_cons_succ]; first | done | rfl)))
        iterate 3 (refine' Sq.det (E := _) (b := _) (by rfl) (by rfl) (by rfl) (fun w' hR hf => ?_) ?_ ?_; rotate_left 2; (· (go_simp; first | done | with_reducible rfl)); (· (simp only [Act.put, List.setIfInBounds_toArray, List.set_cons_zero, List.set_cons_succ]; first | done | rfl)))
        (refine' Sq.det (E := _) (b := _) (by rfl) (by rfl) (by rfl) (fun w' hR hf => ?_) ?_ ?_; rotate_left 2; (· (have hc : w'.cell? ⟨b, 4, none⟩ = some (.int .i64 nn) := (LN.out.below (rv_below hR)).cell 4; go_simp; first | done | with_reducible rfl)); (· (simp only [Act.put, List.setIfInBounds_toArray, List.set_cons_zero, List.set_cons_succ]; first | done | rfl)))
        (refine' Sq.anyX (f := _) (by rfl) (by rfl) (by rfl) (by rfl) (fun w' hR hf => ?_) (fun v => ?_) (fun v8 => ?_); (· (go_wp2_with (go_at_call 53; refine (HW.out w' (rv_below hR)).mono ?_; rintro e w1 ⟨he, hb1⟩; subst he); exact hb1)); rotate_left 1; (· (simp only [Act.put, List.setIfInBounds_toArray, List.set_cons_zero, List.set_cons_succ]; first | done | rfl)))
        (refine' Sq.det (E := _) (b := _) (by rfl) (by rfl) (by rfl) (fun w' hR hf => ?_) ?_ ?_; rotate_left 2; (· (obtain rfl : v8 = .tuple #[.agg #[.int .i64 lo, .int .i64 hi], .int .i64 bs, .bool true] := hf 8 (by decide) _ rfl; go_simp; first | done | with_reducible rfl)); (· (simp only [Act.put, List.setIfInBounds_toArray, List.set_cons_zero, List.set_cons_succ]; first | done | rfl)))
        iterate 3 (refine' Sq.det (E := _) (b := _) (by rfl) (by rfl) (by rfl) (fun w' hR hf => ?_) ?_ ?_; rotate_left 2; (· (go_simp; first | done | with_reducible rfl)); (· (simp only [Act.put, List.setIfInBounds_toArray, List.set_cons_zero, List.set_cons_succ]; first | done | rfl)))
        (refine' Sq.anyX (f := _) (by rfl) (by rfl) (by rfl) (by rfl) (fun w' hR hf => ?_) (fun v => ?_) (fun v13 => ?_); (· (refine wp_alloc_blk 62 rfl z62 [.int .i64 0, .int .i64 0] rfl z62z ?_; intro w1 hk1 hk2; exact ⟨rfl, hk2, _, rfl, (rv_below hR).size, hk1⟩)); rotate_left 1; (· (simp only [Act.put, List.setIfInBounds_toArray, List.set_cons_zero, List.set_cons_succ]; first | done | rfl)))
        (refine' Sq.store (by rfl) (by rfl) (by rfl) (by rfl) (fun w' hR hf => ?_) ?_; (· (obtain ⟨q, hq, hqB, hbq⟩ : ∃ q, v13 = .pointer (some ⟨q, 0, none⟩) ∧ wr.heap.size ≤ q ∧ Blk w' q 62 #[.int .i64 0, .int .i64 0] := hf 13 (by decide) _ rfl; subst hq; refine wp_store_blk 62 _ _ rfl q 0 62 [.int .i64 0, .int .i64 0] (winc ⟨lo, hi⟩) hbq (by kernel_rfl) (by kernel_rfl) size62 (by simp [winc]) (by simp [winc, Value.oneCell']) ?_; intro w1 hn1 hg1 _; refine ⟨rfl, Rv.store hbq ⟨_, _, rfl⟩ hqB hg1, ?_⟩; exact ⟨q, rfl, hqB, by simpa [winc] using hn1⟩)))
        iterate 2 (refine' Sq.det (E := _) (b := _) (by rfl) (by rfl) (by rfl) (fun w' hR hf => ?_) ?_ ?_; rotate_left 2; (· (go_simp; first | done | with_reducible rfl)); (· (simp only [Act.put, List.setIfInBounds_toArray, List.set_cons_zero, List.set_cons_succ]; first | done | rfl)))
        refine Sq.doneX fun w4 hR hp hpc => ?_
        have HB4 := Lib.hid (rv_below hR)
        obtain ⟨q, e1, _, hbq⟩ := hpc 14 (by decide) rfl
        obtain rfl : v13 = .pointer (some ⟨q, 0, none⟩) := e1
        have HQ := Lib.hid hbq
        clear hp hpc hR hbq
        have hc5 : w4.cell? ⟨b, 5, none⟩ = some (.bool false) := (LN.out.below HB4.out).cell 5
        have HLN4 := Lib.hid (HLN.out.below HB4.out)
        go_wp2_with (go_at_call 42; (refine (rise_any HLN4.out HOK.out HRG.out.1 HRG.out.2.1 HRG.out.2.2.1 HRG.out.2.2.2).mono ?_; rintro e w5 ⟨rfl, h1, h2⟩; have H1 := Lib.hid h1; have H2 := Lib.hid h2; clear h1 h2))
        first | go_end0 | refine bodyPost_ret (results_none rfl _ _ _) rfl ?_
        exact ⟨rfl, by rw [dk2, HE0.out, HE1.out]; exact ⟨_, _, _, _, _, _, H1.out, HFF.out⟩, (HKP0.out.trans (Keep.of_below HB4.out)).trans (Keep.of_grown H2.out HFF.out.1)⟩

end Go.Proofs.Ytnddahajfcmkiaa
