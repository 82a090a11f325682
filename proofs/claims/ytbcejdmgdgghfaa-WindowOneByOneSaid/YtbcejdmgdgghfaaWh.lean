/- Contract of the window's Answer. Conditions: at most 100,000 offers, outcomes from 0 to 5. -/
import Derived.Test.YtbcejdmgdgghfaaWg
namespace Go.Proofs.Ytbcejdmgdgghfaa
set_option linter.unusedSimpArgs false
set_option linter.unusedVariables false
set_option linter.unnecessarySimpa false
open Go.RowKit

def possB (a b : Int) : Bool := (a == 0 && (b == 1 || b == 3 || b == 4 || b == 5)) || (a == 1 && (b == 2 || b == 4 || b == 5))
def chgRow (a : Int) : List Value := if a = 0 then row0 else if a = 1 then row1 else zrow
theorem idx85_0 (w : World) : (Instr.index 85 (.agg chgC.toArray) (.int .i64 0)).run Try.prog w = .ok (.agg row0.toArray) w := by kernel_rfl
theorem idx85_1 (w : World) : (Instr.index 85 (.agg chgC.toArray) (.int .i64 1)).run Try.prog w = .ok (.agg row1.toArray) w := by kernel_rfl
theorem idx85_2 (w : World) : (Instr.index 85 (.agg chgC.toArray) (.int .i64 2)).run Try.prog w = .ok (.agg zrow.toArray) w := by kernel_rfl
theorem idx85_3 (w : World) : (Instr.index 85 (.agg chgC.toArray) (.int .i64 3)).run Try.prog w = .ok (.agg zrow.toArray) w := by kernel_rfl
theorem idx85_4 (w : World) : (Instr.index 85 (.agg chgC.toArray) (.int .i64 4)).run Try.prog w = .ok (.agg zrow.toArray) w := by kernel_rfl
theorem idx85_5 (w : World) : (Instr.index 85 (.agg chgC.toArray) (.int .i64 5)).run Try.prog w = .ok (.agg zrow.toArray) w := by kernel_rfl
theorem idx84_row0_0 (w : World) : (Instr.index 84 (.agg row0.toArray) (.int .i64 0)).run Try.prog w = .ok (.bool false) w := by kernel_rfl
theorem idx84_row0_1 (w : World) : (Instr.index 84 (.agg row0.toArray) (.int .i64 1)).run Try.prog w = .ok (.bool true) w := by kernel_rfl
theorem idx84_row0_2 (w : World) : (Instr.index 84 (.agg row0.toArray) (.int .i64 2)).run Try.prog w = .ok (.bool false) w := by kernel_rfl
theorem idx84_row0_3 (w : World) : (Instr.index 84 (.agg row0.toArray) (.int .i64 3)).run Try.prog w = .ok (.bool true) w := by kernel_rfl
theorem idx84_row0_4 (w : World) : (Instr.index 84 (.agg row0.toArray) (.int .i64 4)).run Try.prog w = .ok (.bool true) w := by kernel_rfl
theorem idx84_row0_5 (w : World) : (Instr.index 84 (.agg row0.toArray) (.int .i64 5)).run Try.prog w = .ok (.bool true) w := by kernel_rfl
theorem idx84_row1_0 (w : World) : (Instr.index 84 (.agg row1.toArray) (.int .i64 0)).run Try.prog w = .ok (.bool false) w := by kernel_rfl
theorem idx84_row1_1 (w : World) : (Instr.index 84 (.agg row1.toArray) (.int .i64 1)).run Try.prog w = .ok (.bool false) w := by kernel_rfl
theorem idx84_row1_2 (w : World) : (Instr.index 84 (.agg row1.toArray) (.int .i64 2)).run Try.prog w = .ok (.bool true) w := by kernel_rfl
theorem idx84_row1_3 (w : World) : (Instr.index 84 (.agg row1.toArray) (.int .i64 3)).run Try.prog w = .ok (.bool false) w := by kernel_rfl
theorem idx84_row1_4 (w : World) : (Instr.index 84 (.agg row1.toArray) (.int .i64 4)).run Try.prog w = .ok (.bool true) w := by kernel_rfl
theorem idx84_row1_5 (w : World) : (Instr.index 84 (.agg row1.toArray) (.int .i64 5)).run Try.prog w = .ok (.bool true) w := by kernel_rfl
theorem idx84_zrow_0 (w : World) : (Instr.index 84 (.agg zrow.toArray) (.int .i64 0)).run Try.prog w = .ok (.bool false) w := by kernel_rfl
theorem idx84_zrow_1 (w : World) : (Instr.index 84 (.agg zrow.toArray) (.int .i64 1)).run Try.prog w = .ok (.bool false) w := by kernel_rfl
theorem idx84_zrow_2 (w : World) : (Instr.index 84 (.agg zrow.toArray) (.int .i64 2)).run Try.prog w = .ok (.bool false) w := by kernel_rfl
theorem idx84_zrow_3 (w : World) : (Instr.index 84 (.agg zrow.toArray) (.int .i64 3)).run Try.prog w = .ok (.bool false) w := by kernel_rfl
theorem idx84_zrow_4 (w : World) : (Instr.index 84 (.agg zrow.toArray) (.int .i64 4)).run Try.prog w = .ok (.bool false) w := by kernel_rfl
theorem idx84_zrow_5 (w : World) : (Instr.index 84 (.agg zrow.toArray) (.int .i64 5)).run Try.prog w = .ok (.bool false) w := by kernel_rfl
theorem idx85 (w : World) (a : Int) (h0 : 0 ≤ a) (h5 : a ≤ 5) : (Instr.index 85 (.agg chgC.toArray) (.int .i64 a)).run Try.prog w = .ok (.agg (chgRow a).toArray) w := by
  have : a = 0 ∨ a = 1 ∨ a = 2 ∨ a = 3 ∨ a = 4 ∨ a = 5 := by omega
  rcases this with rfl | rfl | rfl | rfl | rfl | rfl
  · exact idx85_0 w
  · exact idx85_1 w
  · exact idx85_2 w
  · exact idx85_3 w
  · exact idx85_4 w
  · exact idx85_5 w
theorem idx84 (w : World) (a b : Int) (h0 : 0 ≤ b) (h5 : b ≤ 5) : (Instr.index 84 (.agg (chgRow a).toArray) (.int .i64 b)).run Try.prog w = .ok (.bool (possB a b)) w := by
  have hb : b = 0 ∨ b = 1 ∨ b = 2 ∨ b = 3 ∨ b = 4 ∨ b = 5 := by omega
  by_cases h : a = 0
  · subst h
    rcases hb with rfl | rfl | rfl | rfl | rfl | rfl
    · exact idx84_row0_0 w
    · exact idx84_row0_1 w
    · exact idx84_row0_2 w
    · exact idx84_row0_3 w
    · exact idx84_row0_4 w
    · exact idx84_row0_5 w
  · by_cases h' : a = 1
    · subst h'
      rcases hb with rfl | rfl | rfl | rfl | rfl | rfl
      · exact idx84_row1_0 w
      · exact idx84_row1_1 w
      · exact idx84_row1_2 w
      · exact idx84_row1_3 w
      · exact idx84_row1_4 w
      · exact idx84_row1_5 w
    · have e : chgRow a = zrow := by simp [chgRow, h, h']
      have e2 : possB a b = false := by simp [possB, h, h']
      rw [e, e2]
      rcases hb with rfl | rfl | rfl | rfl | rfl | rfl
      · exact idx84_zrow_0 w
      · exact idx84_zrow_1 w
      · exact idx84_zrow_2 w
      · exact idx84_zrow_3 w
      · exact idx84_zrow_4 w
      · exact idx84_zrow_5 w

theorem answer_nil (i : Id) (o : Int) (w : World) :
    Calls Try.prog 17 #[.pointer none, .agg (idc i).toArray, .int .i64 o] w fun e w' => e = .returned (.int .i64 1) ∧ Below w.heap.size w w' := by
  go_enter Try.func17, Try.ntmps17
  go_wp2_with (first
    | (with_reducible refine at_dst 9 ?_; refine wpList_load_cells rfl 37 _ rfl w.heap.size 0 (idc i) rfl _ Try.underlying37 rfl (by rw [idc_len]; exact size37) (fun j u hu => by rw [World.cell?_alloc_new, Nat.zero_add, List.getElem?_toArray]; exact hu) ?_)
    | (go_at_call 39; refine (find_nil _ _).mono ?_; rintro e w1 ⟨rfl, hb1⟩; have HB := Lib.hid hb1; clear hb1))
  go_ret
  exact ⟨rfl, (bnew _ _).trans' HB.out⟩

theorem answer_none (b g : Nat) (s : Int) (l : List Ofr) (i : Id) (o : Int) (w : World) (h : Win w b s l g) (hl : l.length ≤ 100000) (hn : l.find? (isId i) = none) :
    Calls Try.prog 17 #[.pointer (some ⟨b, 0, none⟩), .agg (idc i).toArray, .int .i64 o] w fun e w' => e = .returned (.int .i64 8) ∧ Below w.heap.size w w' := by
  have hi : idxI (isId i) l 0 = -1 := by
    rcases idxI_spec (isId i) l 0 with ⟨h1, h2⟩ | ⟨k, hk, h1, _, h3, _⟩
    · exact h1
    · rw [hn] at h3; cases h3
  have HI := Lib.hid hi
  have HW := Lib.hid (h.below (bnew w (.cells (idc i).toArray 37)))
  clear hi h hn
  go_enter Try.func17, Try.ntmps17
  go_wp2_with (first
    | (with_reducible refine at_dst 9 ?_; refine wpList_load_cells rfl 37 _ rfl w.heap.size 0 (idc i) rfl _ Try.underlying37 rfl (by rw [idc_len]; exact size37) (fun j u hu => by rw [World.cell?_alloc_new, Nat.zero_add, List.getElem?_toArray]; exact hu) ?_)
    | (go_at_call 39; refine (find_any b g s l i _ HW.out hl).mono ?_; rintro e w1 ⟨he, hb1⟩; obtain rfl := he.trans (congrArg (fun n => Ending.returned (.int .i64 n)) HI.out); clear he; have HB := Lib.hid hb1; clear hb1))
  go_ret
  exact ⟨rfl, (bnew _ _).trans' HB.out⟩

theorem answer_kind (b g : Nat) (s : Int) (l : List Ofr) (i : Id) (o : Int) (k : Nat) (w : World) (h : Win w b s l g) (hl : l.length ≤ 100000) (hi : idxI (isId i) l 0 = k) (ho : o < 1 ∨ 5 < o) :
    Calls Try.prog 17 #[.pointer (some ⟨b, 0, none⟩), .agg (idc i).toArray, .int .i64 o] w fun e w' => e = .returned (.int .i64 11) ∧ Below w.heap.size w w' := by
  have HI := Lib.hid hi
  have HW := Lib.hid (h.below (bnew w (.cells (idc i).toArray 37)))
  clear hi h
  by_cases ho1 : o < 1
  all_goals
    (try have ho5 : 5 < o := by omega)
    clear ho
    go_enter Try.func17, Try.ntmps17
    go_wp2_with (first
      | (with_reducible refine at_dst 9 ?_; refine wpList_load_cells rfl 37 _ rfl w.heap.size 0 (idc i) rfl _ Try.underlying37 rfl (by rw [idc_len]; exact size37) (fun j u hu => by rw [World.cell?_alloc_new, Nat.zero_add, List.getElem?_toArray]; exact hu) ?_)
      | (go_at_call 39; refine (find_any b g s l i _ HW.out hl).mono ?_; rintro e w1 ⟨he, hb1⟩; obtain rfl := he.trans (congrArg (fun n => Ending.returned (.int .i64 n)) HI.out); clear he; have HB := Lib.hid hb1; clear hb1))
    go_ret
    exact ⟨rfl, (bnew _ _).trans' HB.out⟩


theorem flatMap_set {α : Type} {f : α → List Value} {size : Nat} (hf : ∀ x, (f x).length = size) : ∀ (l : List α) (k : Nat) (hk : k < l.length) (j : Nat) (u : Value) (y : α), j < size → f y = (f l[k]).set j u → (l.flatMap f).set (k * size + j) u = (l.set k y).flatMap f
  | x :: l, 0, hk, j, u, y, hj, h => by
    simp only [List.getElem_cons_zero] at h
    simp only [List.flatMap_cons, Nat.zero_mul, Nat.zero_add, List.set_cons_zero]
    rw [List.set_append_left _ _ (by rw [hf]; exact hj), h]
  | x :: l, k + 1, hk, j, u, y, hj, h => by
    simp only [List.getElem_cons_succ] at h
    simp only [List.flatMap_cons, List.set_cons_succ]
    rw [List.set_append_right _ _ (by rw [hf, Nat.add_mul]; omega), hf, ← flatMap_set hf l k (by simpa using hk) j u y hj h]
    congr 2
    rw [Nat.add_mul]
    omega
theorem ofrc_set33 (x : Ofr) (o : Int) : ofrc { x with outcome := o } = (ofrc x).set 33 (.int .i64 o) := by
  have : (idc x.id).length = 32 := idc_len _
  rw [ofrc, ofrc, List.set_append_right _ _ (by omega)]
  simp [this]

set_option maxHeartbeats 1000000 in
theorem answer_state (b g : Nat) (s : Int) (l : List Ofr) (i : Id) (o : Int) (k : Nat) (w : World) (h : Win w b s l g) (hl : l.length ≤ 100000) (hgb : g ≠ b) (hi : idxI (isId i) l 0 = k) (hk : k < l.length) (ho1 : 1 ≤ o) (ho5 : o ≤ 5) (hx0 : 0 ≤ l[k].outcome) (hx5 : l[k].outcome ≤ 5) (hp : possB l[k].outcome o = false) :
    Calls Try.prog 17 #[.pointer (some ⟨b, 0, none⟩), .agg (idc i).toArray, .int .i64 o] w fun e w' => e = .returned (.int .i64 10) ∧ Below w.heap.size w w' := by
  have HI := Lib.hid hi
  have HPO := Lib.hid hp
  have hbl := h.cells.1
  have HL := Lib.hid hbl
  have HW := Lib.hid (h.below (bnew w (.cells (idc i).toArray 37)))
  clear hi hp h hbl
  go_enter Try.func17, Try.ntmps17
  go_wp2_with (first
    | (with_reducible refine at_dst 9 ?_; refine wpList_load_cells rfl 37 _ rfl w.heap.size 0 (idc i) rfl _ Try.underlying37 rfl (by rw [idc_len]; exact size37) (fun j u hu => by rw [World.cell?_alloc_new, Nat.zero_add, List.getElem?_toArray]; exact hu) ?_)
    | (go_at_call 39; refine (find_any b g s l i _ HW.out hl).mono ?_; rintro e w1 ⟨he, hb1⟩; obtain rfl := he.trans (congrArg (fun n => Ending.returned (.int .i64 n)) HI.out); clear he; have HB := Lib.hid hb1; have HW1 := Lib.hid (HW.out.below hb1); clear hb1))
  obtain ⟨_, _, _, _, A, c, _, hrd, _⟩ := HW1.out.cells
  obtain ⟨hg, off, rfl, hc⟩ := hrd.elem ofrc_len hk rfl
  have hcw := hc 33 _ (ofrc_33 _)
  have HRD := Lib.hid hrd
  clear hrd hc
  have ix85 := fun w => idx85 w l[k].outcome hx0 hx5
  have ix84 : ∀ w, (Instr.index 84 (.agg (chgRow l[k].outcome).toArray) (.int .i64 o)).run Try.prog w = .ok (.bool false) w := fun w => by rw [← HPO.out]; exact idx84 w l[k].outcome o (by omega) ho5
  refine wp_region_seq (nt := 54) (by kernel_rfl) [0,1,2,3,4,5,6,7,8,9,10,11,12,13] [] Rb Rb.refl Rb.trans [(0, fun v w' => v = .agg chgC.toArray)] (by kernel_rfl) (by simp) rfl rfl (by simp) ⟨fun _ _ _ _ _ h => h, trivial⟩ ?_
  (refine' Sq.any (f := _) (by rfl) (by rfl) (by rfl) (fun w' hR hf => ?_) (fun v => ?_) (fun vc => ?_); (· (go_wp2_with (go_at_call 40; refine (changes_any w').mono ?_; rintro e w1 ⟨rfl, hb1⟩); exact hb1)); rotate_left 1; (· (simp only [Act.put, List.setIfInBounds_toArray, List.set_cons_zero, List.set_cons_succ]; first | done | rfl)))
  iterate 3 (refine' Sq.det (E := _) (b := _) (by rfl) (by rfl) (by rfl) (fun w' hR hf => ?_) ?_ ?_; rotate_left 2; (· (go_simp; first | done | with_reducible rfl)); (· (simp only [Act.put, List.setIfInBounds_toArray, List.set_cons_zero, List.set_cons_succ]; first | done | rfl)))
  (refine' Sq.det (E := _) (b := _) (by rfl) (by rfl) (by rfl) (fun w' hR hf => ?_) ?_ ?_; rotate_left 2; (· (have hb3 := below_undrew hR; have hcell : w'.cell? ⟨b, 1, none⟩ = some (.slice (some ⟨g, off, none⟩) l.length c) := (World.cell?_of_block (w := w1) (hb3.block b (HW1.out.cells.1))).trans (by assumption); go_simp; first | done | with_reducible rfl)); (· (simp only [Act.put, List.setIfInBounds_toArray, List.set_cons_zero, List.set_cons_succ]; first | done | rfl)))
  iterate 3 (refine' Sq.det (E := _) (b := _) (by rfl) (by rfl) (by rfl) (fun w' hR hf => ?_) ?_ ?_; rotate_left 2; (· (go_simp; first | done | with_reducible rfl)); (· (simp only [Act.put, List.setIfInBounds_toArray, List.set_cons_zero, List.set_cons_succ]; first | done | rfl)))
  (refine' Sq.det (E := _) (b := _) (by rfl) (by rfl) (by rfl) (fun w' hR hf => ?_) ?_ ?_; rotate_left 2; (· (have hb3 := below_undrew hR; have hcell : w'.cell? ⟨g, off + k * 34 + 33, none⟩ = some (.int .i64 l[k].outcome) := (World.cell?_of_block (w := w1) (hb3.block g hg)).trans hcw; go_simp; first | done | with_reducible rfl)); (· (simp only [Act.put, List.setIfInBounds_toArray, List.set_cons_zero, List.set_cons_succ]; first | done | rfl)))
  (refine' Sq.det (E := _) (b := _) (by rfl) (by rfl) (by rfl) (fun w' hR hf => ?_) ?_ ?_; rotate_left 2; (· (have hv : vc = .agg chgC.toArray := hf 0 (by decide) _ rfl; subst hv; go_simp; first | done | with_reducible rfl)); (· (simp only [Act.put, List.setIfInBounds_toArray, List.set_cons_zero, List.set_cons_succ]; first | done | rfl)))
  iterate 4 (refine' Sq.det (E := _) (b := _) (by rfl) (by rfl) (by rfl) (fun w' hR hf => ?_) ?_ ?_; rotate_left 2; (· (go_simp; first | done | with_reducible rfl)); (· (simp only [Act.put, List.setIfInBounds_toArray, List.set_cons_zero, List.set_cons_succ]; first | done | rfl)))
  refine Sq.done fun w2 hR _ => ?_
  have hb2 := below_undrew hR
  have HW2 := Lib.hid (HW1.out.below hb2)
  have HR2 := Lib.hid (HRD.out.below hb2)
  have HB2 := Lib.hid (((bnew _ _).trans' HB.out).trans' hb2)
  clear hR hb2 ix85 ix84 hcw
  go_wp2
  go_ret
  exact ⟨rfl, HB2.out⟩

set_option maxHeartbeats 1000000 in
theorem answer_ok (b g : Nat) (s : Int) (l : List Ofr) (i : Id) (o : Int) (k : Nat) (w : World) (h : Win w b s l g) (hl : l.length ≤ 100000) (hgb : g ≠ b) (hi : idxI (isId i) l 0 = k) (hk : k < l.length) (ho1 : 1 ≤ o) (ho5 : o ≤ 5) (hx0 : 0 ≤ l[k].outcome) (hx5 : l[k].outcome ≤ 5) (hp : possB l[k].outcome o = true) :
    Calls Try.prog 17 #[.pointer (some ⟨b, 0, none⟩), .agg (idc i).toArray, .int .i64 o] w fun e w' => e = .returned (.int .i64 0) ∧ w.grownBy w' (some b) ∧ ∃ g', Win w' b s (l.set k { l[k] with outcome := o }) g' ∧ g' ≠ b ∧ w.heap.size ≤ g' := by
  have HI := Lib.hid hi
  have HPO := Lib.hid hp
  have hbl := h.cells.1
  have HL := Lib.hid hbl
  have HW := Lib.hid (h.below (bnew w (.cells (idc i).toArray 37)))
  clear hi hp h hbl
  go_enter Try.func17, Try.ntmps17
  go_wp2_with (first
    | (with_reducible refine at_dst 9 ?_; refine wpList_load_cells rfl 37 _ rfl w.heap.size 0 (idc i) rfl _ Try.underlying37 rfl (by rw [idc_len]; exact size37) (fun j u hu => by rw [World.cell?_alloc_new, Nat.zero_add, List.getElem?_toArray]; exact hu) ?_)
    | (go_at_call 39; refine (find_any b g s l i _ HW.out hl).mono ?_; rintro e w1 ⟨he, hb1⟩; obtain rfl := he.trans (congrArg (fun n => Ending.returned (.int .i64 n)) HI.out); clear he; have HB := Lib.hid hb1; have HW1 := Lib.hid (HW.out.below hb1); clear hb1))
  obtain ⟨_, _, _, _, A, c, _, hrd, _⟩ := HW1.out.cells
  obtain ⟨hg, off, rfl, hc⟩ := hrd.elem ofrc_len hk rfl
  have hcw := hc 33 _ (ofrc_33 _)
  have HRD := Lib.hid hrd
  clear hrd hc
  have ix85 := fun w => idx85 w l[k].outcome hx0 hx5
  have ix84 : ∀ w, (Instr.index 84 (.agg (chgRow l[k].outcome).toArray) (.int .i64 o)).run Try.prog w = .ok (.bool true) w := fun w => by rw [← HPO.out]; exact idx84 w l[k].outcome o (by omega) ho5
  refine wp_region_seq (nt := 54) (by kernel_rfl) [0,1,2,3,4,5,6,7,8,9,10,11,12,13] [] Rb Rb.refl Rb.trans [(0, fun v w' => v = .agg chgC.toArray)] (by kernel_rfl) (by simp) rfl rfl (by simp) ⟨fun _ _ _ _ _ h => h, trivial⟩ ?_
  (refine' Sq.any (f := _) (by rfl) (by rfl) (by rfl) (fun w' hR hf => ?_) (fun v => ?_) (fun vc => ?_); (· (go_wp2_with (go_at_call 40; refine (changes_any w').mono ?_; rintro e w1 ⟨rfl, hb1⟩); exact hb1)); rotate_left 1; (· (simp only [Act.put, List.setIfInBounds_toArray, List.set_cons_zero, List.set_cons_succ]; first | done | rfl)))
  iterate 3 (refine' Sq.det (E := _) (b := _) (by rfl) (by rfl) (by rfl) (fun w' hR hf => ?_) ?_ ?_; rotate_left 2; (· (go_simp; first | done | with_reducible rfl)); (· (simp only [Act.put, List.setIfInBounds_toArray, List.set_cons_zero, List.set_cons_succ]; first | done | rfl)))
  (refine' Sq.det (E := _) (b := _) (by rfl) (by rfl) (by rfl) (fun w' hR hf => ?_) ?_ ?_; rotate_left 2; (· (have hb3 := below_undrew hR; have hcell : w'.cell? ⟨b, 1, none⟩ = some (.slice (some ⟨g, off, none⟩) l.length c) := (World.cell?_of_block (w := w1) (hb3.block b (HW1.out.cells.1))).trans (by assumption); go_simp; first | done | with_reducible rfl)); (· (simp only [Act.put, List.setIfInBounds_toArray, List.set_cons_zero, List.set_cons_succ]; first | done | rfl)))
  iterate 3 (refine' Sq.det (E := _) (b := _) (by rfl) (by rfl) (by rfl) (fun w' hR hf => ?_) ?_ ?_; rotate_left 2; (· (go_simp; first | done | with_reducible rfl)); (· (simp only [Act.put, List.setIfInBounds_toArray, List.set_cons_zero, List.set_cons_succ]; first | done | rfl)))
  (refine' Sq.det (E := _) (b := _) (by rfl) (by rfl) (by rfl) (fun w' hR hf => ?_) ?_ ?_; rotate_left 2; (· (have hb3 := below_undrew hR; have hcell : w'.cell? ⟨g, off + k * 34 + 33, none⟩ = some (.int .i64 l[k].outcome) := (World.cell?_of_block (w := w1) (hb3.block g hg)).trans hcw; go_simp; first | done | with_reducible rfl)); (· (simp only [Act.put, List.setIfInBounds_toArray, List.set_cons_zero, List.set_cons_succ]; first | done | rfl)))
  (refine' Sq.det (E := _) (b := _) (by rfl) (by rfl) (by rfl) (fun w' hR hf => ?_) ?_ ?_; rotate_left 2; (· (have hv : vc = .agg chgC.toArray := hf 0 (by decide) _ rfl; subst hv; go_simp; first | done | with_reducible rfl)); (· (simp only [Act.put, List.setIfInBounds_toArray, List.set_cons_zero, List.set_cons_succ]; first | done | rfl)))
  iterate 4 (refine' Sq.det (E := _) (b := _) (by rfl) (by rfl) (by rfl) (fun w' hR hf => ?_) ?_ ?_; rotate_left 2; (· (go_simp; first | done | with_reducible rfl)); (· (simp only [Act.put, List.setIfInBounds_toArray, List.set_cons_zero, List.set_cons_succ]; first | done | rfl)))
  refine Sq.done fun w2 hR _ => ?_
  have hb2 := below_undrew hR
  have HW2 := Lib.hid (HW1.out.below hb2)
  have HR2 := Lib.hid (HRD.out.below hb2)
  have HB2 := Lib.hid (((bnew _ _).trans' HB.out).trans' hb2)
  clear hR hb2 ix85 ix84 hcw
  obtain ⟨_, _, hfr, _, A2, c2, hc2, hr2, _⟩ := HW2.out.cells
  have HR3 := Lib.hid hr2
  obtain ⟨_, _, hbk, _, _⟩ := HW2.out
  have HBK := Lib.hid hbk
  clear hr2 hbk
  go_wp2_with fail
  refine (clone_any l g c2 A2 w2 HR3.out hl).mono ?_
  rintro e w3 ⟨v, rfl, ho3, hb3⟩
  obtain ⟨g3, c3, rfl, hge3, hlt3⟩ := ho3.form (by omega)
  have hbw : b < w2.heap.size := Nat.lt_of_lt_of_le HL.out HB2.out.size
  have hne : g3 ≠ b := by omega
  have hbk3 := HBK.out.below hb3
  have hcell3 := hbk3.cell 1
  have hfr3 := hbk3.frozen 1
  simp only [List.getElem?_toArray, List.getElem?_cons_succ, List.getElem?_cons_zero] at hcell3
  have ho4 := ho3.kept (grownBy_setCell w3 b 1 (.slice (some ⟨g3, 0, none⟩) l.length c3)) (.inr (by simpa [Value.ownBlock] using hne))
  have hget : ((l.flatMap ofrc))[k * 34 + 33]? = some (.int .i64 l[k].outcome) := by rw [getElem?_flatMap ofrc_len l k hk 33 (by omega)]; exact ofrc_33 _
  have h4c := (ho4.cellAt (k * 34 + 33) (by omega)).trans hget
  have h4f := ho4.frozenAt (k * 34 + 33)
  obtain ⟨hst, hgst⟩ := ho4.stored (k * 34 + 33) (.int .i64 o)
  rw [flatMap_set ofrc_len l k hk 33 (.int .i64 o) { l[k] with outcome := o } (by omega) (ofrc_set33 _ _)] at hst
  have hbk5 := (hbk3.set_ 1 (.slice (some ⟨g3, 0, none⟩) l.length c3)).far (p := ⟨g3, k * 34 + 33, none⟩) (by simpa using Ne.symm hne) (.int .i64 o)
  obtain ⟨gx, hrx, hcx, _⟩ := Rd.own hst
  have hgx : gx = g3 := by
    obtain ⟨_, off', he, _⟩ := hrx.2 (by omega)
    simpa using (congrArg (fun x => (Option.map Addr.block x)) he).symm
  subst hgx
  have hfin : Win ((w3.setCell ⟨b, 1, none⟩ (.slice (some ⟨gx, 0, none⟩) l.length c3)).setCell ⟨gx, k * 34 + 33, none⟩ (.int .i64 o)) b s (l.set k { l[k] with outcome := o }) gx :=
    ⟨some ⟨gx, 0, none⟩, c3, by simpa using hbk5, by simpa using hrx, by simpa using hcx⟩
  have hgw : w.grownBy ((w3.setCell ⟨b, 1, none⟩ (.slice (some ⟨gx, 0, none⟩) l.length c3)).setCell ⟨gx, k * 34 + 33, none⟩ (.int .i64 o)) (some b) := by
    have h1 : w.grownBy (w3.setCell ⟨b, 1, none⟩ (.slice (some ⟨gx, 0, none⟩) l.length c3)) (some b) := ((HB2.out.trans' hb3).grownBy _).trans' (grownBy_setCell _ _ _ _)
    exact ⟨hgst.os.trans h1.os, hgst.tape.trans h1.tape, hgst.output.trans h1.output, Nat.le_trans h1.size hgst.size, fun x hx hxb => (hgst.block x (Nat.lt_of_lt_of_le hx h1.size) (fun e => by have := HB2.out.size; simp at e; omega)).trans (h1.block x hx hxb)⟩
  have HF := Lib.hid hfin
  have HG := Lib.hid hgw
  clear hfin hgw ho3 ho4 hst hgst hbk5 hbk3 hrx hcx hget hb3
  go_wp2
  go_ret
  exact ⟨rfl, HG.out, gx, HF.out, hne, by have := HB2.out.size; omega⟩
end Go.Proofs.Ytbcejdmgdgghfaa
