/- The line: Send. Conditions: none. -/
import Derived.Test.YtnddahajfcmkiaaLn
namespace Go.Proofs.Ytnddahajfcmkiaa
set_option linter.unusedSimpArgs false
set_option linter.unusedVariables false
set_option linter.unnecessarySimpa false
open Go.RowKit
section
variable {w : World} {b gw g0 g1 c c0 c1 : Nat} {L : Ln} {A A0 A1 : Option Addr}
set_option maxRecDepth 20000 in
set_option maxHeartbeats 1000000 in
theorem send_ok0 (t : ByteArray) (h : LnAt w b L gw g0 g1 A A0 A1 c c0 c1) (hu : L.up = true) (hl : L.l.wait.size + t.size ≤ 1048576) : Calls Try.prog 23 #[.pointer (some ⟨b, 0, none⟩), .int .i64 0, .string t] w fun e w' => e = .returned (.int .i64 0) ∧ ∃ y, Below w.heap.size w y ∧ w' = y.setCell ⟨b, 7, none⟩ (.string (L.l.wait ++ t)) := by
  have hc := h.up
  rw [hu] at hc
  have hw0 : w.cell? ⟨b, 7, none⟩ = some (.string L.l.wait) := h.blk.cell 7
  have HL := Lib.hid h
  have HV : Hid (validS 0 = true) := Lib.hid (by simp [validS])
  clear h hu
  go_enter Try.func23, Try.ntmps23
  go_wp2_with (go_at_call 49; refine (valid_any 0 w).mono ?_; rintro e w' ⟨he, rfl⟩; rw [HV.out] at he; subst he)
  refine wp_region_seq (nt := 46) (by kernel_rfl) [0,1,2,3,4,5,6,7,8,9,10,11,12] [13] Rb Rb.refl Rb.trans [] (by kernel_rfl) (by simp) rfl (by kernel_rfl) (by simp) trivial ?_
  (refine' Sq.det (E := _) (b := _) (by rfl) (by rfl) (by rfl) (fun w' hR hf => ?_) ?_ ?_; rotate_left 2; (· (go_simp; first | done | with_reducible rfl)); (· (simp only [Act.put, List.setIfInBounds_toArray, List.set_cons_zero, List.set_cons_succ]; first | done | rfl)))
  (refine' Sq.det (E := _) (b := _) (by rfl) (by rfl) (by rfl) (fun w' hR hf => ?_) ?_ ?_; rotate_left 2; (· (go_simp; first | done | with_reducible rfl)); (· (simp only [Act.put, List.setIfInBounds_toArray, List.set_cons_zero, List.set_cons_succ]; first | done | rfl)))
  (refine' Sq.det (E := _) (b := _) (by rfl) (by rfl) (by rfl) (fun w' hR hf => ?_) ?_ ?_; rotate_left 2; (· (go_simp; first | done | with_reducible rfl)); (· (simp only [Act.put, List.setIfInBounds_toArray, List.set_cons_zero, List.set_cons_succ]; first | done | rfl)))
  (refine' Sq.det (E := _) (b := _) (by rfl) (by rfl) (by rfl) (fun w' hR hf => ?_) ?_ ?_; rotate_left 2; (· (go_simp; first | done | with_reducible rfl)); (· (simp only [Act.put, List.setIfInBounds_toArray, List.set_cons_zero, List.set_cons_succ]; first | done | rfl)))
  (refine' Sq.det (E := _) (b := _) (by rfl) (by rfl) (by rfl) (fun w' hR hf => ?_) ?_ ?_; rotate_left 2; (· (go_simp; first | done | with_reducible rfl)); (· (simp only [Act.put, List.setIfInBounds_toArray, List.set_cons_zero, List.set_cons_succ]; first | done | rfl)))
  (refine' Sq.det (E := _) (b := _) (by rfl) (by rfl) (by rfl) (fun w' hR hf => ?_) ?_ ?_; rotate_left 2; (· (go_simp; first | done | with_reducible rfl)); (· (simp only [Act.put, List.setIfInBounds_toArray, List.set_cons_zero, List.set_cons_succ]; first | done | rfl)))
  (refine' Sq.det (E := _) (b := _) (by rfl) (by rfl) (by rfl) (fun w' hR hf => ?_) ?_ ?_; rotate_left 2; (· (have hq : w'.cell? ⟨b, 7, none⟩ = some (.string L.l.wait) := (HL.out.below (below_undrew hR)).blk.cell 7; go_simp; first | done | with_reducible rfl)); (· (simp only [Act.put, List.setIfInBounds_toArray, List.set_cons_zero, List.set_cons_succ]; first | done | rfl)))
  (refine' Sq.det (E := _) (b := _) (by rfl) (by rfl) (by rfl) (fun w' hR hf => ?_) ?_ ?_; rotate_left 2; (· (go_simp; first | done | with_reducible rfl)); (· (simp only [Act.put, List.setIfInBounds_toArray, List.set_cons_zero, List.set_cons_succ]; first | done | rfl)))
  (refine' Sq.det (E := _) (b := _) (by rfl) (by rfl) (by rfl) (fun w' hR hf => ?_) ?_ ?_; rotate_left 2; (· (have hq : ¬ 9223372036854775807 < L.l.wait.size + t.size := (by omega); go_simp; first | done | with_reducible rfl)); (· (simp only [Act.put, List.setIfInBounds_toArray, List.set_cons_zero, List.set_cons_succ]; first | done | rfl)))
  (refine' Sq.det (E := _) (b := _) (by rfl) (by rfl) (by rfl) (fun w' hR hf => ?_) ?_ ?_; rotate_left 2; (· (go_simp; first | done | with_reducible rfl)); (· (simp only [Act.put, List.setIfInBounds_toArray, List.set_cons_zero, List.set_cons_succ]; first | done | rfl)))
  (refine' Sq.det (E := _) (b := _) (by rfl) (by rfl) (by rfl) (fun w' hR hf => ?_) ?_ ?_; rotate_left 2; (· (go_simp; first | done | with_reducible rfl)); (· (simp only [Act.put, List.setIfInBounds_toArray, List.set_cons_zero, List.set_cons_succ]; first | done | rfl)))
  (refine' Sq.det (E := _) (b := _) (by rfl) (by rfl) (by rfl) (fun w' hR hf => ?_) ?_ ?_; rotate_left 2; (· (go_simp; first | done | with_reducible rfl)); (· (simp only [Act.put, List.setIfInBounds_toArray, List.set_cons_zero, List.set_cons_succ]; first | done | rfl)))
  (refine' Sq.det (E := _) (b := _) (by rfl) (by rfl) (by rfl) (fun w' hR hf => ?_) ?_ ?_; rotate_left 2; (· (go_simp; first | done | with_reducible rfl)); (· (simp only [Act.put, List.setIfInBounds_toArray, List.set_cons_zero, List.set_cons_succ]; first | done | rfl)))
  refine Sq.tail1 (by rfl) fun y hR _ => ?_
  have HY := Lib.hid (HL.out.below (below_undrew hR))
  have HB := Lib.hid (below_undrew hR)
  clear hR
  have hfz := HY.out.blk.frozen 7
  have hcy : y.cell? ⟨b, 7, none⟩ = some (.string L.l.wait) := HY.out.blk.cell 7
  go_wp2
  go_ret
  exact ⟨rfl, _, HB.out, rfl⟩
set_option maxRecDepth 20000 in
set_option maxHeartbeats 1000000 in
theorem send_ok1 (t : ByteArray) (h : LnAt w b L gw g0 g1 A A0 A1 c c0 c1) (hu : L.up = true) (hl : L.r.wait.size + t.size ≤ 1048576) : Calls Try.prog 23 #[.pointer (some ⟨b, 0, none⟩), .int .i64 1, .string t] w fun e w' => e = .returned (.int .i64 0) ∧ ∃ y, Below w.heap.size w y ∧ w' = y.setCell ⟨b, 10, none⟩ (.string (L.r.wait ++ t)) := by
  have hc := h.up
  rw [hu] at hc
  have hw0 : w.cell? ⟨b, 10, none⟩ = some (.string L.r.wait) := h.blk.cell 10
  have HL := Lib.hid h
  have HV : Hid (validS 1 = true) := Lib.hid (by simp [validS])
  clear h hu
  go_enter Try.func23, Try.ntmps23
  go_wp2_with (go_at_call 49; refine (valid_any 1 w).mono ?_; rintro e w' ⟨he, rfl⟩; rw [HV.out] at he; subst he)
  refine wp_region_seq (nt := 46) (by kernel_rfl) [0,1,2,3,4,5,6,7,8,9,10,11,12] [13] Rb Rb.refl Rb.trans [] (by kernel_rfl) (by simp) rfl (by kernel_rfl) (by simp) trivial ?_
  (refine' Sq.det (E := _) (b := _) (by rfl) (by rfl) (by rfl) (fun w' hR hf => ?_) ?_ ?_; rotate_left 2; (· (go_simp; first | done | with_reducible rfl)); (· (simp only [Act.put, List.setIfInBounds_toArray, List.set_cons_zero, List.set_cons_succ]; first | done | rfl)))
  (refine' Sq.det (E := _) (b := _) (by rfl) (by rfl) (by rfl) (fun w' hR hf => ?_) ?_ ?_; rotate_left 2; (· (go_simp; first | done | with_reducible rfl)); (· (simp only [Act.put, List.setIfInBounds_toArray, List.set_cons_zero, List.set_cons_succ]; first | done | rfl)))
  (refine' Sq.det (E := _) (b := _) (by rfl) (by rfl) (by rfl) (fun w' hR hf => ?_) ?_ ?_; rotate_left 2; (· (go_simp; first | done | with_reducible rfl)); (· (simp only [Act.put, List.setIfInBounds_toArray, List.set_cons_zero, List.set_cons_succ]; first | done | rfl)))
  (refine' Sq.det (E := _) (b := _) (by rfl) (by rfl) (by rfl) (fun w' hR hf => ?_) ?_ ?_; rotate_left 2; (· (go_simp; first | done | with_reducible rfl)); (· (simp only [Act.put, List.setIfInBounds_toArray, List.set_cons_zero, List.set_cons_succ]; first | done | rfl)))
  (refine' Sq.det (E := _) (b := _) (by rfl) (by rfl) (by rfl) (fun w' hR hf => ?_) ?_ ?_; rotate_left 2; (· (go_simp; first | done | with_reducible rfl)); (· (simp only [Act.put, List.setIfInBounds_toArray, List.set_cons_zero, List.set_cons_succ]; first | done | rfl)))
  (refine' Sq.det (E := _) (b := _) (by rfl) (by rfl) (by rfl) (fun w' hR hf => ?_) ?_ ?_; rotate_left 2; (· (go_simp; first | done | with_reducible rfl)); (· (simp only [Act.put, List.setIfInBounds_toArray, List.set_cons_zero, List.set_cons_succ]; first | done | rfl)))
  (refine' Sq.det (E := _) (b := _) (by rfl) (by rfl) (by rfl) (fun w' hR hf => ?_) ?_ ?_; rotate_left 2; (· (have hq : w'.cell? ⟨b, 10, none⟩ = some (.string L.r.wait) := (HL.out.below (below_undrew hR)).blk.cell 10; go_simp; first | done | with_reducible rfl)); (· (simp only [Act.put, List.setIfInBounds_toArray, List.set_cons_zero, List.set_cons_succ]; first | done | rfl)))
  (refine' Sq.det (E := _) (b := _) (by rfl) (by rfl) (by rfl) (fun w' hR hf => ?_) ?_ ?_; rotate_left 2; (· (go_simp; first | done | with_reducible rfl)); (· (simp only [Act.put, List.setIfInBounds_toArray, List.set_cons_zero, List.set_cons_succ]; first | done | rfl)))
  (refine' Sq.det (E := _) (b := _) (by rfl) (by rfl) (by rfl) (fun w' hR hf => ?_) ?_ ?_; rotate_left 2; (· (have hq : ¬ 9223372036854775807 < L.r.wait.size + t.size := (by omega); go_simp; first | done | with_reducible rfl)); (· (simp only [Act.put, List.setIfInBounds_toArray, List.set_cons_zero, List.set_cons_succ]; first | done | rfl)))
  (refine' Sq.det (E := _) (b := _) (by rfl) (by rfl) (by rfl) (fun w' hR hf => ?_) ?_ ?_; rotate_left 2; (· (go_simp; first | done | with_reducible rfl)); (· (simp only [Act.put, List.setIfInBounds_toArray, List.set_cons_zero, List.set_cons_succ]; first | done | rfl)))
  (refine' Sq.det (E := _) (b := _) (by rfl) (by rfl) (by rfl) (fun w' hR hf => ?_) ?_ ?_; rotate_left 2; (· (go_simp; first | done | with_reducible rfl)); (· (simp only [Act.put, List.setIfInBounds_toArray, List.set_cons_zero, List.set_cons_succ]; first | done | rfl)))
  (refine' Sq.det (E := _) (b := _) (by rfl) (by rfl) (by rfl) (fun w' hR hf => ?_) ?_ ?_; rotate_left 2; (· (go_simp; first | done | with_reducible rfl)); (· (simp only [Act.put, List.setIfInBounds_toArray, List.set_cons_zero, List.set_cons_succ]; first | done | rfl)))
  (refine' Sq.det (E := _) (b := _) (by rfl) (by rfl) (by rfl) (fun w' hR hf => ?_) ?_ ?_; rotate_left 2; (· (go_simp; first | done | with_reducible rfl)); (· (simp only [Act.put, List.setIfInBounds_toArray, List.set_cons_zero, List.set_cons_succ]; first | done | rfl)))
  refine Sq.tail1 (by rfl) fun y hR _ => ?_
  have HY := Lib.hid (HL.out.below (below_undrew hR))
  have HB := Lib.hid (below_undrew hR)
  clear hR
  have hfz := HY.out.blk.frozen 10
  have hcy : y.cell? ⟨b, 10, none⟩ = some (.string L.r.wait) := HY.out.blk.cell 10
  go_wp2
  go_ret
  exact ⟨rfl, _, HB.out, rfl⟩
theorem send_lim0 (t : ByteArray) (h : LnAt w b L gw g0 g1 A A0 A1 c c0 c1) (hu : L.up = true) (hl : 1048576 < L.l.wait.size + t.size) (h1 : L.l.wait.size ≤ 1048576) (ht : t.size ≤ 4611686018427387904) : Calls Try.prog 23 #[.pointer (some ⟨b, 0, none⟩), .int .i64 0, .string t] w fun e w' => e = .returned (.int .i64 9) ∧ w = w' := by
  have hc := h.up
  rw [hu] at hc
  have hw0 : w.cell? ⟨b, 7, none⟩ = some (.string L.l.wait) := h.blk.cell 7
  have HV : Hid (validS 0 = true) := Lib.hid (by simp [validS])
  clear h hu
  go_enter Try.func23, Try.ntmps23
  go_wp2_with (go_at_call 49; refine (valid_any 0 w).mono ?_; rintro e w' ⟨he, rfl⟩; rw [HV.out] at he; subst he)
  go_ret
  exact ⟨rfl, rfl⟩
theorem send_lim1 (t : ByteArray) (h : LnAt w b L gw g0 g1 A A0 A1 c c0 c1) (hu : L.up = true) (hl : 1048576 < L.r.wait.size + t.size) (h1 : L.r.wait.size ≤ 1048576) (ht : t.size ≤ 4611686018427387904) : Calls Try.prog 23 #[.pointer (some ⟨b, 0, none⟩), .int .i64 1, .string t] w fun e w' => e = .returned (.int .i64 9) ∧ w = w' := by
  have hc := h.up
  rw [hu] at hc
  have hw0 : w.cell? ⟨b, 10, none⟩ = some (.string L.r.wait) := h.blk.cell 10
  have HV : Hid (validS 1 = true) := Lib.hid (by simp [validS])
  clear h hu
  go_enter Try.func23, Try.ntmps23
  go_wp2_with (go_at_call 49; refine (valid_any 1 w).mono ?_; rintro e w' ⟨he, rfl⟩; rw [HV.out] at he; subst he)
  go_ret
  exact ⟨rfl, rfl⟩
end
end Go.Proofs.Ytnddahajfcmkiaa
