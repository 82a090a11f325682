/- Contract of the window's Offer. Conditions: at most 100,000 offers. -/
import Derived.Test.YtbcejdmgdgghfaaWe
namespace Go.Proofs.Ytbcejdmgdgghfaa
set_option linter.unusedSimpArgs false
set_option linter.unusedVariables false
set_option linter.unnecessarySimpa false
open Go.RowKit

theorem below_kept {w w' : World} {base e size n : Nat} {v : Value} {xs : List Value} (h : w.ownsRow base e size v n xs) (hb : Below w.heap.size w w') : w'.ownsRow base e size v n xs :=
  h.kept (hb.grownBy none) (by cases hv : v.ownBlock <;> simp)

theorem fields81 (w : World) : ((Try.prog.fieldsOf 81).mapM (m := Sem) fun (f : Field) => do pure (f.offset, ← sizeOf f.type)).run Try.prog w = .ok #[(0, 32), (32, 1), (33, 1)] w := by kernel_rfl
theorem fields72 (w : World) : ((Try.prog.fieldsOf 72).mapM (m := Sem) fun (f : Field) => do pure (f.offset, ← sizeOf f.type)).run Try.prog w = .ok #[(0, 32), (32, 1), (33, 1)] w := by kernel_rfl
theorem fields43 (w : World) : ((Try.prog.fieldsOf 43).mapM (m := Sem) fun (f : Field) => do pure (f.offset, ← sizeOf f.type)).run Try.prog w = .ok #[(0, 32), (32, 1)] w := by kernel_rfl
theorem structs81 : Try.prog.underlying 81 = some (.struct (Try.prog.fieldsOf 81)) := by kernel_rfl
theorem structs72 : Try.prog.underlying 72 = some (.struct (Try.prog.fieldsOf 72)) := by kernel_rfl
theorem structs43 : Try.prog.underlying 43 = some (.struct (Try.prog.fieldsOf 43)) := by kernel_rfl
def ofrvs (o : Ofr) : List Value := [.agg (idc o.id).toArray, .int .i64 o.size, .int .i64 o.outcome]
theorem ofrvs_flat (o : Ofr) : flatc (ofrvs o) = ofrc o := by simp [flatc, ofrvs, ofrc, Value.cells]
theorem ofrvs_places (o : Ofr) : Places ((#[(0, 32), (32, 1), (33, 1)] : Array (Nat × Nat))[·]?) 0 0 (ofrvs o) := by
  simp [Places, ofrvs, Value.cells, idc_len]

theorem exec_build81 {w : World} {ρ : Operand → Value} {dst : Option Tmp} {t : TypeId} {p : String} {af : Array Edge} {gd : Option (Nat × Bool)} (x y z : Operand) (o : Ofr) (hx : ρ x = .agg (idc o.id).toArray) (hy : ρ y = .int .i64 o.size) (hz : ρ z = .int .i64 o.outcome) :
    (execOp ρ ⟨dst, .build 81 #[(0, x), (1, y), (2, z)], t, p, af, gd⟩).run Try.prog w = .ok (.value (.agg (ofrc o).toArray)) w := by
  obtain ⟨i0, hi0, hz0, _, _⟩ := info_parts info81
  rw [exec_build_all 81 _ i0 z81 structs81 hi0 hz0 _ fields81 (ofrvs o) (by simp [ofrvs, numbered, hx, hy, hz]) (ofrvs_places o) (by rw [ofrvs_flat, ofrc_len]; rfl), ofrvs_flat]

def badN (n : Int) : Bool := decide (n < 0) || decide (65536 < n)
def hasId (l : List Ofr) (i : Id) : Bool := (l.find? (isId i)).isSome
def busyB (s : Int) (l : List Ofr) : Bool := decide (s ≤ (outs l).length)
def offE (s : Int) (l : List Ofr) (i : Id) (n : Int) : Int := if badN n then 2 else if hasId l i then 7 else if busyB s l then 25 else 0
def offL (s : Int) (l : List Ofr) (i : Id) (n : Int) : List Ofr := if badN n then l else if hasId l i then l else if busyB s l then l else l ++ [⟨i, n, 0⟩]

theorem offer_nil (i : Id) (n : Int) (w : World) :
    Calls Try.prog 15 #[.pointer none, .agg (idc i).toArray, .int .i64 n] w fun e w' => e = .returned (.int .i64 1) ∧ Below w.heap.size w w' := by
  go_enter Try.func15, Try.ntmps15
  go_wp2
  go_ret
  exact ⟨rfl, bnew _ _⟩

theorem offer_bad (b g : Nat) (s : Int) (l : List Ofr) (i : Id) (n : Int) (w : World) (h : Win w b s l g) (hn : badN n = true) :
    Calls Try.prog 15 #[.pointer (some ⟨b, 0, none⟩), .agg (idc i).toArray, .int .i64 n] w fun e w' => e = .returned (.int .i64 2) ∧ Below w.heap.size w w' := by
  by_cases h0 : n < 0
  · clear hn
    go_enter Try.func15, Try.ntmps15
    go_wp2
    go_ret
    exact ⟨rfl, bnew _ _⟩
  · have h1 : 65536 < n := by simp [badN, h0] at hn; exact hn
    clear hn
    go_enter Try.func15, Try.ntmps15
    go_wp2
    go_ret
    exact ⟨rfl, bnew _ _⟩

theorem hasId_idx (l : List Ofr) (i : Id) : (hasId l i = true → 0 ≤ idxI (isId i) l 0) ∧ (hasId l i = false → idxI (isId i) l 0 = -1) := by
  rcases idxI_spec (isId i) l 0 with ⟨h1, h2⟩ | ⟨k, hk, h1, _, h3, _⟩
  · simp [hasId, h1, h2]
  · simp [hasId, h1, h3]

theorem offer_dup (b g : Nat) (s : Int) (l : List Ofr) (i : Id) (n : Int) (w : World) (h : Win w b s l g) (hl : l.length ≤ 100000) (hn : badN n = false) (hd : hasId l i = true) :
    Calls Try.prog 15 #[.pointer (some ⟨b, 0, none⟩), .agg (idc i).toArray, .int .i64 n] w fun e w' => e = .returned (.int .i64 7) ∧ Below w.heap.size w w' := by
  have hn1 : 0 ≤ n ∧ n ≤ 65536 := by simpa [badN] using hn
  obtain ⟨hn1, hn2⟩ := hn1
  have hix := (hasId_idx l i).1 hd
  have HW := Lib.hid (h.below (bnew w (.cells (idc i).toArray 37)))
  clear hn hd h
  go_enter Try.func15, Try.ntmps15
  go_wp2_with (first
    | (with_reducible refine at_dst 19 ?_; refine wpList_load_cells rfl 37 _ rfl w.heap.size 0 (idc i) rfl _ Try.underlying37 rfl (by rw [idc_len]; exact size37) (fun j u hu => by rw [World.cell?_alloc_new, Nat.zero_add, List.getElem?_toArray]; exact hu) ?_)
    | (go_at_call 39; refine (find_any b g s l i _ HW.out hl).mono ?_; rintro e w1 ⟨rfl, hb1⟩; have HB := Lib.hid hb1; clear hb1))
  go_ret
  exact ⟨rfl, (bnew _ _).trans' HB.out⟩


set_option maxHeartbeats 1000000 in
theorem offer_busy (b g : Nat) (s : Int) (l : List Ofr) (i : Id) (n : Int) (w : World) (h : Win w b s l g) (hl : l.length ≤ 100000) (hgb : g ≠ b) (hn : badN n = false) (hd : hasId l i = false) (hb : busyB s l = true) :
    Calls Try.prog 15 #[.pointer (some ⟨b, 0, none⟩), .agg (idc i).toArray, .int .i64 n] w fun e w' => e = .returned (.int .i64 25) ∧ Below w.heap.size w w' := by
  have hn1 : 0 ≤ n ∧ n ≤ 65536 := by simpa [badN] using hn
  obtain ⟨hn1, hn2⟩ := hn1
  have hbz : s ≤ ((outs l).length : Int) := by simpa [busyB] using hb
  have hix := (hasId_idx l i).2 hd
  have HI := Lib.hid hix
  have hw0 := h.below (bnew w (.cells (idc i).toArray 37))
  have HW := Lib.hid hw0
  have HP := Lib.hid (Blk.new w 37 (idc i).toArray)
  have hbl := h.cells.1
  have HL := Lib.hid hbl
  clear hn hd h hb hix hw0 hbl
  go_enter Try.func15, Try.ntmps15
  go_wp2_with (first
    | (with_reducible refine at_dst 19 ?_; refine wpList_load_cells rfl 37 _ rfl w.heap.size 0 (idc i) rfl _ Try.underlying37 rfl (by rw [idc_len]; exact size37) (fun j u hu => by rw [World.cell?_alloc_new, Nat.zero_add, List.getElem?_toArray]; exact hu) ?_)
    | (go_at_call 39; refine (find_any b g s l i _ HW.out hl).mono ?_; rintro e w1 ⟨he, hb1⟩; obtain rfl := he.trans (congrArg (fun n => Ending.returned (.int .i64 n)) HI.out); clear he; have HB := Lib.hid hb1; have HW1 := Lib.hid (HW.out.below hb1); have HP1 := Lib.hid (HP.out.below hb1); clear hb1))
  refine wp_region_seq (nt := 44) (by kernel_rfl) [0,1,2,3,4,5,6,7,8] [] Rb Rb.refl Rb.trans [(1, fun v w' => ∃ A c, v = .slice A (outs l).length c)] (by kernel_rfl) (by simp) rfl rfl (by simp) ⟨fun _ _ _ _ _ h => h, trivial⟩ ?_
  (refine' Sq.det (E := _) (b := _) (by rfl) (by rfl) (by rfl) (fun w' hR hf => ?_) ?_ ?_; rotate_left 2; (· (go_simp; first | done | with_reducible rfl)); (· (simp only [Act.put, List.setIfInBounds_toArray, List.set_cons_zero, List.set_cons_succ]; first | done | rfl)))
  (refine' Sq.any (f := _) (by rfl) (by rfl) (by rfl) (fun w' hR hf => ?_) (fun v => ?_) (fun v => ?_); (· (go_wp2_with (go_at_call 14; refine (outstanding_any b g s l w' (HW1.out.below (below_undrew hR)) hl).mono ?_; rintro e w1 ⟨v, rfl, ho, hb1⟩); obtain ⟨A', c', g', rfl, _⟩ := NewSl.own ho; exact ⟨hb1, _, _, rfl⟩)); rotate_left 1; (· (simp only [Act.put, List.setIfInBounds_toArray, List.set_cons_zero, List.set_cons_succ]; first | done | rfl)))
  (refine' Sq.det (E := _) (b := _) (by rfl) (by rfl) (by rfl) (fun w' hR hf => ?_) ?_ ?_; rotate_left 2; (· (have hv : ∃ A c, v = .slice A (outs l).length c := hf 1 (by decide) _ rfl; obtain ⟨A, c, rfl⟩ := hv; go_simp; first | done | with_reducible rfl)); (· (simp only [Act.put, List.setIfInBounds_toArray, List.set_cons_zero, List.set_cons_succ]; first | done | rfl)))
  iterate 3 (refine' Sq.det (E := _) (b := _) (by rfl) (by rfl) (by rfl) (fun w' hR hf => ?_) ?_ ?_; rotate_left 2; (· (go_simp; first | done | with_reducible rfl)); (· (simp only [Act.put, List.setIfInBounds_toArray, List.set_cons_zero, List.set_cons_succ]; first | done | rfl)))
  (refine' Sq.det (E := _) (b := _) (by rfl) (by rfl) (by rfl) (fun w' hR hf => ?_) ?_ ?_; rotate_left 2; (· (obtain ⟨_, _, _, hc0, _⟩ := (HW1.out.below (below_undrew hR)).cells; go_simp; first | done | with_reducible rfl)); (· (simp only [Act.put, List.setIfInBounds_toArray, List.set_cons_zero, List.set_cons_succ]; first | done | rfl)))
  iterate 2 (refine' Sq.det (E := _) (b := _) (by rfl) (by rfl) (by rfl) (fun w' hR hf => ?_) ?_ ?_; rotate_left 2; (· (go_simp; first | done | with_reducible rfl)); (· (simp only [Act.put, List.setIfInBounds_toArray, List.set_cons_zero, List.set_cons_succ]; first | done | rfl)))
  refine Sq.done fun w2 hR _ => ?_
  have hb2 := below_undrew hR
  have HW2 := Lib.hid (HW1.out.below hb2)
  have HP2 := Lib.hid (HP1.out.below hb2)
  have HB2 := Lib.hid (((bnew _ _).trans' HB.out).trans' hb2)
  clear hR hb2
  go_wp2
  go_ret
  exact ⟨rfl, HB2.out⟩

set_option maxHeartbeats 1000000 in
theorem offer_ok (b g : Nat) (s : Int) (l : List Ofr) (i : Id) (n : Int) (w : World) (h : Win w b s l g) (hl : l.length ≤ 100000) (hgb : g ≠ b) (hn : badN n = false) (hd : hasId l i = false) (hb : busyB s l = false) :
    Calls Try.prog 15 #[.pointer (some ⟨b, 0, none⟩), .agg (idc i).toArray, .int .i64 n] w fun e w' => e = .returned (.int .i64 0) ∧ w.grownBy w' (some b) ∧ ∃ g', Win w' b s (l ++ [⟨i, n, 0⟩]) g' ∧ g' ≠ b ∧ w.heap.size ≤ g' := by
  have hn1 : 0 ≤ n ∧ n ≤ 65536 := by simpa [badN] using hn
  obtain ⟨hn1, hn2⟩ := hn1
  have hbz : ((outs l).length : Int) < s := by simpa [busyB] using hb
  have hix := (hasId_idx l i).2 hd
  have HI := Lib.hid hix
  have hw0 := h.below (bnew w (.cells (idc i).toArray 37))
  have HW := Lib.hid hw0
  have HP := Lib.hid (Blk.new w 37 (idc i).toArray)
  have hbl := h.cells.1
  have HL := Lib.hid hbl
  clear hn hd h hb hix hw0 hbl
  go_enter Try.func15, Try.ntmps15
  go_wp2_with (first
    | (with_reducible refine at_dst 19 ?_; refine wpList_load_cells rfl 37 _ rfl w.heap.size 0 (idc i) rfl _ Try.underlying37 rfl (by rw [idc_len]; exact size37) (fun j u hu => by rw [World.cell?_alloc_new, Nat.zero_add, List.getElem?_toArray]; exact hu) ?_)
    | (go_at_call 39; refine (find_any b g s l i _ HW.out hl).mono ?_; rintro e w1 ⟨he, hb1⟩; obtain rfl := he.trans (congrArg (fun n => Ending.returned (.int .i64 n)) HI.out); clear he; have HB := Lib.hid hb1; have HW1 := Lib.hid (HW.out.below hb1); have HP1 := Lib.hid (HP.out.below hb1); clear hb1))
  refine wp_region_seq (nt := 44) (by kernel_rfl) [0,1,2,3,4,5,6,7,8] [] Rb Rb.refl Rb.trans [(1, fun v w' => ∃ A c, v = .slice A (outs l).length c)] (by kernel_rfl) (by simp) rfl rfl (by simp) ⟨fun _ _ _ _ _ h => h, trivial⟩ ?_
  (refine' Sq.det (E := _) (b := _) (by rfl) (by rfl) (by rfl) (fun w' hR hf => ?_) ?_ ?_; rotate_left 2; (· (go_simp; first | done | with_reducible rfl)); (· (simp only [Act.put, List.setIfInBounds_toArray, List.set_cons_zero, List.set_cons_succ]; first | done | rfl)))
  (refine' Sq.any (f := _) (by rfl) (by rfl) (by rfl) (fun w' hR hf => ?_) (fun v => ?_) (fun v => ?_); (· (go_wp2_with (go_at_call 14; refine (outstanding_any b g s l w' (HW1.out.below (below_undrew hR)) hl).mono ?_; rintro e w1 ⟨v, rfl, ho, hb1⟩); obtain ⟨A', c', g', rfl, _⟩ := NewSl.own ho; exact ⟨hb1, _, _, rfl⟩)); rotate_left 1; (· (simp only [Act.put, List.setIfInBounds_toArray, List.set_cons_zero, List.set_cons_succ]; first | done | rfl)))
  (refine' Sq.det (E := _) (b := _) (by rfl) (by rfl) (by rfl) (fun w' hR hf => ?_) ?_ ?_; rotate_left 2; (· (have hv : ∃ A c, v = .slice A (outs l).length c := hf 1 (by decide) _ rfl; obtain ⟨A, c, rfl⟩ := hv; go_simp; first | done | with_reducible rfl)); (· (simp only [Act.put, List.setIfInBounds_toArray, List.set_cons_zero, List.set_cons_succ]; first | done | rfl)))
  iterate 3 (refine' Sq.det (E := _) (b := _) (by rfl) (by rfl) (by rfl) (fun w' hR hf => ?_) ?_ ?_; rotate_left 2; (· (go_simp; first | done | with_reducible rfl)); (· (simp only [Act.put, List.setIfInBounds_toArray, List.set_cons_zero, List.set_cons_succ]; first | done | rfl)))
  (refine' Sq.det (E := _) (b := _) (by rfl) (by rfl) (by rfl) (fun w' hR hf => ?_) ?_ ?_; rotate_left 2; (· (obtain ⟨_, _, _, hc0, _⟩ := (HW1.out.below (below_undrew hR)).cells; go_simp; first | done | with_reducible rfl)); (· (simp only [Act.put, List.setIfInBounds_toArray, List.set_cons_zero, List.set_cons_succ]; first | done | rfl)))
  iterate 2 (refine' Sq.det (E := _) (b := _) (by rfl) (by rfl) (by rfl) (fun w' hR hf => ?_) ?_ ?_; rotate_left 2; (· (go_simp; first | done | with_reducible rfl)); (· (simp only [Act.put, List.setIfInBounds_toArray, List.set_cons_zero, List.set_cons_succ]; first | done | rfl)))
  refine Sq.done fun w2 hR _ => ?_
  have hb2 := below_undrew hR
  have HW2 := Lib.hid (HW1.out.below hb2)
  have HP2 := Lib.hid (HP1.out.below hb2)
  have HB2 := Lib.hid (((bnew _ _).trans' HB.out).trans' hb2)
  clear hR hb2
  go_wp2_with fail
  refine wp_region_any (by kernel_rfl) ?_
  change wpAny _ _ _ _ _ _ _ (World.drew _)
  (refine' wpAny_take' (i := 0) (E := _) (b := _) (by rfl) (by kernel_rfl) (by kernel_rfl) (by kernel_rfl) (fun _ _ _ h => h) (by rfl) (fun w' => ?_) ?_ ?_; rotate_left 2; (· (go_simp; first | done | with_reducible rfl)); (· (simp only [Act.put, List.setIfInBounds_toArray, List.set_cons_zero, List.set_cons_succ]; first | done | rfl)))
  refine wpAny_seq (nt := 44) [0] [1,2,3,4,5,6,7,8,9] [10,11,12,13] Rb Rb.refl Rb.trans [(5, fun v w' => w'.ownsRow w.heap.size 81 34 v l.length (l.flatMap ofrc)), (9, fun v w' => ∃ k, v = .slice (some ⟨k, 0, none⟩) 1 1 ∧ Blk w' k 81 (ofrc ⟨i, n, 0⟩).toArray)] (by kernel_rfl) (by simp) (by kernel_rfl) (by kernel_rfl) (by kernel_rfl) (by simp) ?_ ?_
  · refine ⟨fun v w w' _ h2 h => below_kept h h2, fun v w w' _ h2 h => ?_, trivial⟩
    obtain ⟨k, rfl, hk⟩ := h
    exact ⟨k, rfl, hk.below h2⟩
  iterate 3 (refine' Sq.det (E := _) (b := _) (by rfl) (by rfl) (by rfl) (fun w' hR hf => ?_) ?_ ?_; rotate_left 2; (· (go_simp; first | done | with_reducible rfl)); (· (simp only [Act.put, List.setIfInBounds_toArray, List.set_cons_zero, List.set_cons_succ]; first | done | rfl)))
  obtain ⟨_, _, _, _, A, c, _, hrd, _⟩ := HW2.out.cells
  have HRD := Lib.hid hrd
  clear hrd
  (refine' Sq.det (E := _) (b := _) (by rfl) (by rfl) (by rfl) (fun w' hR hf => ?_) ?_ ?_; rotate_left 2; (· (have hb3 := below_undrew hR; have hh := hb3.block b (HW2.out.cells.1); have hcell : w'.cell? ⟨b, 1, none⟩ = some (.slice A l.length c) := (World.cell?_of_block (w := w2) hh).trans (by assumption); go_simp; first | done | with_reducible rfl)); (· (simp only [Act.put, List.setIfInBounds_toArray, List.set_cons_zero, List.set_cons_succ]; first | done | rfl)))
  obtain ⟨i0, hi0, hz0, hz1, hz2⟩ := info_parts info81
  (refine' Sq.any (f := _) (by rfl) (by rfl) (by rfl) (fun w' hR hf => ?_) (fun v => ?_) (fun vo => ?_); (· (go_wp2_with (go_at_call 38; refine (clone_any l g c A w' (HRD.out.below (below_undrew hR)) hl).mono ?_; rintro e w1 ⟨v, rfl, ho, hb1⟩); exact ⟨hb1, ownsRow_base ho (Nat.le_trans HB2.out.size (below_undrew hR).size)⟩)); rotate_left 1; (· (simp only [Act.put, List.setIfInBounds_toArray, List.set_cons_zero, List.set_cons_succ]; first | done | rfl)))
  (refine' Sq.det (E := _) (b := _) (by rfl) (by rfl) (by rfl) (fun w' hR hf => ?_) ?_ ?_; rotate_left 2; (· (refine exec_load_cells 37 _ w.heap.size 0 (idc i) ?_ _ Try.underlying37 rfl (by rw [idc_len]; exact size37) (fun j u hu => ?_); (· rfl); (rw [Nat.zero_add, (HP2.out.below (below_undrew hR)).cell, List.getElem?_toArray]; exact hu))); (· (simp only [Act.put, List.setIfInBounds_toArray, List.set_cons_zero, List.set_cons_succ]; first | done | rfl)))
  (refine' Sq.det (E := _) (b := _) (by rfl) (by rfl) (by rfl) (fun w' hR hf => ?_) ?_ ?_; rotate_left 2; (· (go_simp; first | done | with_reducible rfl)); (· (simp only [Act.put, List.setIfInBounds_toArray, List.set_cons_zero, List.set_cons_succ]; first | done | rfl)))
  (refine' Sq.det (E := _) (b := _) (by rfl) (by rfl) (by rfl) (fun w' hR hf => ?_) ?_ ?_; rotate_left 2; (· (refine exec_build81 _ _ _ ⟨i, n, 0⟩ ?_ ?_ ?_ <;> rfl)); (· (simp only [Act.put, List.setIfInBounds_toArray, List.set_cons_zero, List.set_cons_succ]; first | done | rfl)))
  (refine' Sq.any (f := _) (by rfl) (by rfl) (by rfl) (fun w' hR hf => ?_) (fun v => ?_) (fun vk => ?_); (· (refine wp_buildSlice1 76 _ rfl 81 i0 z81 34 Try.underlying76 hi0 hz0 hz1 (.agg (ofrc ⟨i, n, 0⟩).toArray) (ofrc ⟨i, n, 0⟩) (by rfl) rfl (ofrc_len _) (by omega) ?_; exact ⟨rfl, bnew _ _, _, rfl, Blk.new _ _ _⟩)); rotate_left 1; (· (simp only [Act.put, List.setIfInBounds_toArray, List.set_cons_zero, List.set_cons_succ]; first | done | rfl)))
  refine Sq.tail4 (by rfl) (by rfl) (by rfl) (by rfl) (fun w3 hR hp => ?_)
  have hv : w3.ownsRow w.heap.size 81 34 vo l.length (l.flatMap ofrc) := hp 5 (by decide) _ rfl
  have hk : ∃ k, vk = .slice (some ⟨k, 0, none⟩) 1 1 ∧ Blk w3 k 81 (ofrc ⟨i, n, 0⟩).toArray := hp 9 (by decide) _ rfl
  obtain ⟨k, rfl, hk⟩ := hk
  have hb3 := below_undrew hR
  have hW3 := HW2.out.below hb3
  refine wpList_append_own _ rfl (.tmp 36) (.tmp 40) 76 rfl w.heap.size 81 i0 z81 34 48 Try.underlying76 hi0 hz0 hz1 hz2 z81_size (by omega) vo l.length (l.flatMap ofrc) rfl hv ⟨k, 0, none⟩ 1 1 (ofrc ⟨i, n, 0⟩) rfl (by rw [ofrc_len])
    (fun j u hu => by rw [Addr.add_lit, Nat.zero_add, hk.cell, List.getElem?_toArray]; exact hu) (oneCell_ofrc _) (by simp only [maxLen]; omega) (by omega) (Nat.le_trans HB2.out.size hb3.size) ?_
  intro v' w4 ho4 hg4 _
  obtain ⟨A', c', g', rfl, hr4, hc4, hge⟩ := NewSl.own ho4
  have hne : some b ≠ vo.ownBlock := fun e => by have := (hv.lt b e.symm).1; have := HL.out; omega
  have hgb4 : g' ≠ b := fun e => by have := hge (by omega); have := HL.out; omega
  have hge4 := hge (by omega)
  obtain ⟨A3, c3, hblk3, _, _⟩ := hW3
  have hblk4 := hblk3.grown hg4 hne
  have hcell4 := hblk4.cell 1
  simp only [List.getElem?_toArray, List.getElem?_cons_succ, List.getElem?_cons_zero] at hcell4
  have hfr4 := hblk4.frozen 1
  have hfin : Win (w4.setCell ⟨b, 1, none⟩ (.slice A' (l.length + 1) c')) b s (l ++ [⟨i, n, 0⟩]) g' := by
    refine ⟨A', c', by simpa using hblk4.set_ 1 (.slice A' (l.length + 1) c'), ?_, by simpa using hc4⟩
    have := hr4.grown (grownBy_setCell w4 b 1 (.slice A' (l.length + 1) c')) (by simpa using hgb4)
    simpa using this
  have hgw : w.grownBy (w4.setCell ⟨b, 1, none⟩ (.slice A' (l.length + 1) c')) (some b) := by
    have h1 : w.grownBy w3 (some b) := (HB2.out.trans' hb3).grownBy _
    have h2 : w.grownBy w4 (some b) := ⟨hg4.os.trans h1.os, hg4.tape.trans h1.tape, hg4.output.trans h1.output, Nat.le_trans h1.size hg4.size, fun x hx hxb => (hg4.block x (Nat.lt_of_lt_of_le hx h1.size) (fun e => by have := (hv.lt x e.symm).1; omega)).trans (h1.block x hx hxb)⟩
    exact h2.trans' (grownBy_setCell _ _ _ _)
  have HF := Lib.hid hfin
  have HG := Lib.hid hgw
  clear hfin hgw ho4 hg4 hr4 hc4 hge hblk4 hblk3 hp hv hk hR hb3 hne
  go_wp2
  go_ret
  exact ⟨rfl, HG.out, g', HF.out, hgb4, hge4⟩
end Go.Proofs.Ytbcejdmgdgghfaa
