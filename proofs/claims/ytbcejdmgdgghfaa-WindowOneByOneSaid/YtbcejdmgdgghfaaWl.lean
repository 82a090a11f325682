/- Contracts of the window's Drop, Clone, Equal. Conditions: at most 100,000 offers. -/
import Derived.Test.YtbcejdmgdgghfaaWk
namespace Go.Proofs.Ytbcejdmgdgghfaa
set_option linter.unusedSimpArgs false
set_option linter.unusedVariables false
set_option linter.unnecessarySimpa false
open Go.RowKit

theorem own_slice {w : World} {base e size n : Nat} {v : Value} {xs : List Value} (h : w.ownsRow base e size v n xs) : ∃ A c, v = .slice A n c := by
  obtain ⟨A, c, _, hv, _⟩ := NewSl.own h
  exact ⟨A, c, hv⟩
/-- a window whose offers are replaced by a row of the call's own -/
theorem win_put {w : World} {b base : Nat} {s : Int} {v0 : Value} {l : List Ofr} {A : Option Addr} {c : Nat} (hb : Blk w b 78 #[.int .i64 s, v0]) (ho : w.ownsRow base 81 34 (.slice A l.length c) l.length (l.flatMap ofrc)) (hlt : b < base) :
    ∃ g', Win (w.setCell ⟨b, 1, none⟩ (.slice A l.length c)) b s l g' ∧ g' ≠ b := by
  obtain ⟨A', c', g, hv, hr, hc, hge⟩ := NewSl.own ho
  simp only [Value.slice.injEq, true_and] at hv
  obtain ⟨rfl, rfl⟩ := hv
  have hb5 := hb.set_ 1 (.slice A l.length c)
  rcases Nat.eq_zero_or_pos l.length with h0 | h0
  · refine ⟨b + 1, ⟨A, c, by simpa using hb5, ?_, hc⟩, by omega⟩
    obtain rfl : l = [] := List.eq_nil_of_length_eq_zero h0
    exact Rd.nil _ _ _ _
  · have hne : g ≠ b := by have := hge h0; omega
    exact ⟨g, ⟨A, c, by simpa using hb5, hr.grown (grownBy_setCell w b 1 _) (by simpa using hne), hc⟩, hne⟩

theorem win_new {w0 w : World} (s : Int) (l : List Ofr) (A : Option Addr) (c : Nat) (ho : w.ownsRow w0.heap.size 81 34 (.slice A l.length c) l.length (l.flatMap ofrc)) (hz : w0.heap.size ≤ w.heap.size) :
    ∃ b' g', Value.pointer (some ⟨w.heap.size, 0, none⟩) = .pointer (some ⟨b', 0, none⟩) ∧ Win (w.alloc (.cells #[.int .i64 s, .slice A l.length c] 78)) b' s l g' ∧ w0.heap.size ≤ b' ∧ (0 < l.length → w0.heap.size ≤ g') ∧ g' ≠ b' := by
  obtain ⟨A', c', g, hv, hr, hc, hge⟩ := NewSl.own ho
  simp only [Value.slice.injEq, true_and] at hv
  obtain ⟨rfl, rfl⟩ := hv
  rcases Nat.eq_zero_or_pos l.length with h0 | h0
  · obtain rfl : l = [] := List.eq_nil_of_length_eq_zero h0
    exact ⟨_, w.heap.size + 1, rfl, ⟨A, c, Blk.new _ _ _, Rd.nil _ _ _ _, hc⟩, hz, fun h => absurd h (by simp), by omega⟩
  · exact ⟨_, g, rfl, ⟨A, c, Blk.new _ _ _, hr.below (bnew _ _), hc⟩, hz, hge, by have := (hr.2 h0).1; omega⟩

theorem drop_nil (w : World) :
    Calls Try.prog 25 #[.pointer none] w fun e w' => e = .returned (.slice none 0 0) ∧ w = w' := by
  go_enter Try.func25, Try.ntmps25
  go_wp2
  go_ret
  exact ⟨rfl, rfl⟩
theorem outstanding_nil (w : World) :
    Calls Try.prog 14 #[.pointer none] w fun e w' => e = .returned (.slice none 0 0) ∧ w = w' := by
  go_enter Try.func14, Try.ntmps14
  go_wp2
  go_ret
  exact ⟨rfl, rfl⟩
theorem wclone_nil (w : World) :
    Calls Try.prog 29 #[.pointer none] w fun e w' => e = .returned (.pointer none) ∧ w = w' := by
  go_enter Try.func29, Try.ntmps29
  go_wp2
  go_ret
  exact ⟨rfl, rfl⟩
theorem equal_nils (w : World) :
    Calls Try.prog 32 #[.pointer none, .pointer none] w fun e w' => e = .returned (.bool true) ∧ w = w' := by
  go_enter Try.func32, Try.ntmps32
  go_wp2
  go_ret
  exact ⟨rfl, rfl⟩
theorem equal_nil1 (b : Nat) (w : World) :
    Calls Try.prog 32 #[.pointer none, .pointer (some ⟨b, 0, none⟩)] w fun e w' => e = .returned (.bool false) ∧ w = w' := by
  go_enter Try.func32, Try.ntmps32
  go_wp2
  go_ret
  exact ⟨rfl, rfl⟩
theorem equal_nil2 (b : Nat) (w : World) :
    Calls Try.prog 32 #[.pointer (some ⟨b, 0, none⟩), .pointer none] w fun e w' => e = .returned (.bool false) ∧ w = w' := by
  go_enter Try.func32, Try.ntmps32
  go_wp2
  go_ret
  exact ⟨rfl, rfl⟩

set_option maxHeartbeats 1000000 in
theorem drop_any (b g : Nat) (s : Int) (l : List Ofr) (w : World) (h : Win w b s l g) (hl : l.length ≤ 100000) (hgb : g ≠ b) :
    Calls Try.prog 25 #[.pointer (some ⟨b, 0, none⟩)] w fun e w' => ∃ v, e = .returned v ∧ w'.ownsRow w.heap.size 37 32 v (outs l).length ((outs l).flatMap idc) ∧ w.grownBy w' (some b) ∧ ∃ g', Win w' b s (keepL l) g' ∧ g' ≠ b := by
  have hlt := h.cells.1
  have HW := Lib.hid h
  have HL := Lib.hid hlt
  clear h
  go_enter Try.func25, Try.ntmps25
  go_wp2_with (go_at_call 14; refine (outstanding_any b g s l w HW.out hl).mono ?_; rintro e w1 ⟨v, rfl, ho, hb1⟩; obtain ⟨A1, c1, rfl⟩ := own_slice ho; obtain ⟨_, _, _, _, A, c, hc1, hr1, _⟩ := (HW.out.below hb1).cells; have HR1 := Lib.hid hr1; have HO1 := Lib.hid ho; have HB1 := Lib.hid hb1; clear ho hb1 hr1)
  refine (clone_any l g c A w1 HR1.out hl).mono ?_
  rintro e w2 ⟨v2, rfl, ho2, hb2⟩
  have HO2 := Lib.hid ho2
  have HB2 := Lib.hid hb2
  clear ho2 hb2 hc1
  go_wp2_with fail
  refine (delete_any l w1.heap.size v2 w2 HO2.out hl).mono ?_
  rintro e w3 ⟨v3, rfl, ho3, hg3⟩
  obtain ⟨A3, c3, rfl⟩ := own_slice ho3
  have hbl1 : b < w1.heap.size := Nat.lt_of_lt_of_le HL.out HB1.out.size
  have hne : some b ≠ v2.ownBlock := fun e => by have := (HO2.out.lt b e.symm).1; omega
  obtain ⟨A0, c0, hblk0, _, _⟩ := (HW.out.below HB1.out).below HB2.out
  have hblk3 := hblk0.grown hg3 hne
  have hcell3 := hblk3.cell 1
  simp only [List.getElem?_toArray, List.getElem?_cons_succ, List.getElem?_cons_zero] at hcell3
  have hfr3 := hblk3.frozen 1
  have hfin := win_put hblk3 ho3 hbl1
  have h02 : w.grownBy w2 (some b) := (HB1.out.trans' HB2.out).grownBy _
  have h03 : w.grownBy w3 (some b) := ⟨hg3.os.trans h02.os, hg3.tape.trans h02.tape, hg3.output.trans h02.output, Nat.le_trans h02.size hg3.size, fun x hx hxb => (hg3.block x (Nat.lt_of_lt_of_le hx h02.size) (fun e => by have := (HO2.out.lt x e.symm).1; have := HB1.out.size; omega)).trans (h02.block x hx hxb)⟩
  have ho13 : w3.ownsRow w.heap.size 37 32 (.slice A1 (outs l).length c1) (outs l).length ((outs l).flatMap idc) := (below_kept HO1.out HB2.out).kept hg3 (by
    cases hv : (Value.slice A1 (outs l).length c1).ownBlock with
    | none => exact .inl rfl
    | some x =>
      refine .inr fun e => ?_
      have h1 := (HO2.out.lt x e.symm).1
      have h2 := (HO1.out.lt x hv).2
      omega)
  have ho14 := ho13.kept (grownBy_setCell w3 b 1 (.slice A3 (keepL l).length c3)) (.inr (fun e => by have := (HO1.out.lt b e).1; have := HL.out; omega))
  have HF := Lib.hid hfin
  have HG := Lib.hid (h03.trans' (grownBy_setCell w3 b 1 (.slice A3 (keepL l).length c3)))
  have HO4 := Lib.hid ho14
  clear hfin h02 h03 ho13 ho14 ho3 hg3 hblk0 hblk3 hne
  go_wp2
  go_ret
  exact ⟨_, rfl, HO4.out, HG.out, HF.out⟩

theorem wp_box {P : Program} {Q : Exit → Act → World → Prop} {a : Act} {w : World} {o : Oper} {K : Act → World → Prop} (ty : TypeId) (x : Operand) (ho : o.op = .box ty x) (cs : Array Value) (hx : a.eval x = .agg cs)
    (h : K (a.put o.dst (.pointer (some ⟨w.heap.size, 0, none⟩))) (w.alloc (.cells cs ty))) : o.wp P a w K Q := by
  unfold Oper.wp execOp
  simp only [ho, hx, Instr.box, Sem.run_bind, Result.andThen_ok, newVar, newRow, Sem.run_pure, newObj, Sem.run, Value.cells]
  exact h
def z78 : Value := .agg #[.int .i64 0, .slice none 0 0]
theorem info78 : (Try.prog.info? 78).map (fun i => (i.zero, i.size, i.bytes)) = some (some z78, 2, 32) := by kernel_rfl
theorem fields78 (w : World) : ((Try.prog.fieldsOf 78).mapM (m := Sem) fun (f : Field) => do pure (f.offset, ← sizeOf f.type)).run Try.prog w = .ok #[(0, 1), (1, 1)] w := by kernel_rfl
theorem structs78 : Try.prog.underlying 78 = some (.struct (Try.prog.fieldsOf 78)) := by kernel_rfl
theorem exec_build78 {w : World} {ρ : Operand → Value} {dst : Option Tmp} {t : TypeId} {p : String} {af : Array Edge} {gd : Option (Nat × Bool)} (x z : Operand) (s : Int) (v : Value) (hx : ρ x = .int .i64 s) (hz : ρ z = v) (hv : ∃ A n c, v = .slice A n c) :
    (execOp ρ ⟨dst, .build 78 #[(0, x), (1, z)], t, p, af, gd⟩).run Try.prog w = .ok (.value (.agg #[.int .i64 s, v])) w := by
  obtain ⟨A, n, c, rfl⟩ := hv
  obtain ⟨i0, hi0, hz0, _, _⟩ := info_parts info78
  rw [exec_build_all 78 _ i0 z78 structs78 hi0 hz0 _ fields78 [.int .i64 s, .slice A n c] (by simp [numbered, hx, hz]) (by simp [Places, Value.cells]) rfl]
  rfl
theorem wp_run {P : Program} {Q : Exit → Act → World → Prop} {a : Act} {w : World} {o : Oper} {K : Act → World → Prop} {v : Value} (h : (execOp a.eval o).run P w = .ok (.value v) w) (k : K (a.put o.dst v) w) : o.wp P a w K Q := by
  unfold Oper.wp
  rw [h]
  exact k

set_option maxHeartbeats 1000000 in
theorem wclone_any (b g : Nat) (s : Int) (l : List Ofr) (w : World) (h : Win w b s l g) (hl : l.length ≤ 100000) :
    Calls Try.prog 29 #[.pointer (some ⟨b, 0, none⟩)] w fun e w' => ∃ b' g', e = .returned (.pointer (some ⟨b', 0, none⟩)) ∧ Below w.heap.size w w' ∧ Win w' b' s l g' ∧ w.heap.size ≤ b' ∧ (0 < l.length → w.heap.size ≤ g') ∧ g' ≠ b' := by
  have hlt := h.cells.1
  have HW := Lib.hid h
  have HL := Lib.hid hlt
  obtain ⟨_, _, _, _, A, c, _, hr, _⟩ := h.cells
  have HR := Lib.hid hr
  clear h hr
  go_enter Try.func29, Try.ntmps29
  go_wp2_with fail
  refine wp_region_seq (nt := 16) (by kernel_rfl) [0,1,2,3,4,5,6,7,8,9,10,11] [] Rb Rb.refl Rb.trans [(8, fun v w' => w'.ownsRow w.heap.size 81 34 v l.length (l.flatMap ofrc)), (9, fun v w' => ∃ A c, v = .agg #[.int .i64 s, .slice A l.length c] ∧ w'.ownsRow w.heap.size 81 34 (.slice A l.length c) l.length (l.flatMap ofrc)), (10, fun v w' => ∃ b' g', v = .pointer (some ⟨b', 0, none⟩) ∧ Win w' b' s l g' ∧ w.heap.size ≤ b' ∧ (0 < l.length → w.heap.size ≤ g') ∧ g' ≠ b')] (by kernel_rfl) (by simp) rfl rfl (by simp) ?_ ?_
  · refine ⟨fun v w w' _ h2 h => below_kept h h2, fun v w w' _ h2 h => ?_, fun v w w' _ h2 h => ?_, trivial⟩
    · obtain ⟨A, c, h1, h3⟩ := h
      exact ⟨A, c, h1, below_kept h3 h2⟩
    obtain ⟨b', g', h1, h3, h4⟩ := h
    exact ⟨b', g', h1, h3.below h2, h4⟩
  iterate 3 (refine' Sq.det (E := _) (b := _) (by rfl) (by rfl) (by rfl) (fun w' hR hf => ?_) ?_ ?_; rotate_left 2; (· (go_simp; first | done | with_reducible rfl)); (· (simp only [Act.put, List.setIfInBounds_toArray, List.set_cons_zero, List.set_cons_succ]; first | done | rfl)))
  (refine' Sq.det (E := _) (b := _) (by rfl) (by rfl) (by rfl) (fun w' hR hf => ?_) ?_ ?_; rotate_left 2; (· (obtain ⟨_, _, _, hc0, _⟩ := (HW.out.below (below_undrew hR)).cells; go_simp; first | done | with_reducible rfl)); (· (simp only [Act.put, List.setIfInBounds_toArray, List.set_cons_zero, List.set_cons_succ]; first | done | rfl)))
  iterate 3 (refine' Sq.det (E := _) (b := _) (by rfl) (by rfl) (by rfl) (fun w' hR hf => ?_) ?_ ?_; rotate_left 2; (· (go_simp; first | done | with_reducible rfl)); (· (simp only [Act.put, List.setIfInBounds_toArray, List.set_cons_zero, List.set_cons_succ]; first | done | rfl)))
  obtain ⟨A0, c0, hblk0, hr0, hlc0⟩ := HW.out
  have HR0 := Lib.hid hr0
  have hcell0 := hblk0.cell 1
  simp only [List.getElem?_toArray, List.getElem?_cons_succ, List.getElem?_cons_zero] at hcell0
  clear hr0
  (refine' Sq.det (E := _) (b := _) (by rfl) (by rfl) (by rfl) (fun w' hR hf => ?_) ?_ ?_; rotate_left 2; (· (have hcell : w'.cell? ⟨b, 1, none⟩ = some (.slice A0 l.length c0) := ((below_undrew hR).cell (p := ⟨b, 1, none⟩) HL.out).trans hcell0; go_simp; first | done | with_reducible rfl)); (· (simp only [Act.put, List.setIfInBounds_toArray, List.set_cons_zero, List.set_cons_succ]; first | done | rfl)))
  (refine' Sq.any (f := _) (by rfl) (by rfl) (by rfl) (fun w' hR hf => ?_) (fun v => ?_) (fun vo => ?_); (· (go_wp2_with (go_at_call 38; refine (clone_any l g c0 A0 w' (HR0.out.below (below_undrew hR)) hl).mono ?_; rintro e w1 ⟨v, rfl, ho, hb1⟩); exact ⟨hb1, ownsRow_base ho (below_undrew hR).size⟩)); rotate_left 1; (· (simp only [Act.put, List.setIfInBounds_toArray, List.set_cons_zero, List.set_cons_succ]; first | done | rfl)))
  (refine' Sq.any (f := _) (by rfl) (by rfl) (by rfl) (fun w' hR hf => ?_) (fun v => ?_) (fun va => ?_); (· (have hv : w'.ownsRow w.heap.size 81 34 vo l.length (l.flatMap ofrc) := hf 8 (by decide) _ rfl; obtain ⟨Av, cv, rfl⟩ := own_slice hv; refine wp_run (exec_build78 _ _ s _ rfl rfl ⟨_, _, _, rfl⟩) ?_; exact ⟨rfl, Below.refl _ _, _, _, rfl, hv⟩)); rotate_left 1; (· (simp only [Act.put, List.setIfInBounds_toArray, List.set_cons_zero, List.set_cons_succ]; first | done | rfl)))
  (refine' Sq.any (f := _) (by rfl) (by rfl) (by rfl) (fun w' hR hf => ?_) (fun v => ?_) (fun vk => ?_); (· (have hv : ∃ A c, va = .agg #[.int .i64 s, .slice A l.length c] ∧ w'.ownsRow w.heap.size 81 34 (.slice A l.length c) l.length (l.flatMap ofrc) := hf 9 (by decide) _ rfl; obtain ⟨A, c, rfl, hv⟩ := hv; refine wp_box 78 _ rfl #[.int .i64 s, .slice A l.length c] rfl ?_; exact ⟨rfl, bnew _ _, win_new s l A c hv (below_undrew hR).size⟩)); rotate_left 1; (· (simp only [Act.put, List.setIfInBounds_toArray, List.set_cons_zero, List.set_cons_succ]; first | done | rfl)))
  (refine' Sq.det (E := _) (b := _) (by rfl) (by rfl) (by rfl) (fun w' hR hf => ?_) ?_ ?_; rotate_left 2; (· (go_simp; first | done | with_reducible rfl)); (· (simp only [Act.put, List.setIfInBounds_toArray, List.set_cons_zero, List.set_cons_succ]; first | done | rfl)))
  refine Sq.done fun w2 hR hp => ?_
  have hv : ∃ b' g', vk = .pointer (some ⟨b', 0, none⟩) ∧ Win w2 b' s l g' ∧ w.heap.size ≤ b' ∧ (0 < l.length → w.heap.size ≤ g') ∧ g' ≠ b' := hp 10 (by decide) _ rfl
  obtain ⟨b', g', rfl, hv⟩ := hv
  have HV := Lib.hid hv
  have HB := Lib.hid (below_undrew hR)
  clear hv hR hp
  go_wp2
  go_ret
  exact ⟨b', g', rfl, HB.out, HV.out⟩

set_option maxHeartbeats 1000000 in
theorem wequal_any (b1 g1 b2 g2 : Nat) (s1 s2 : Int) (l1 l2 : List Ofr) (w : World) (h1 : Win w b1 s1 l1 g1) (h2 : Win w b2 s2 l2 g2) (hl1 : l1.length ≤ 100000) (hl2 : l2.length ≤ 100000) :
    Calls Try.prog 32 #[.pointer (some ⟨b1, 0, none⟩), .pointer (some ⟨b2, 0, none⟩)] w fun e w' => e = .returned (.bool (decide (s1 = s2) && decide (l1 = l2))) ∧ Below w.heap.size w w' := by
  have HL1 := Lib.hid h1.cells.1
  have HL2 := Lib.hid h2.cells.1
  obtain ⟨A1, c1, hb1, hr1, _⟩ := h1
  obtain ⟨A2, c2, hb2, hr2, _⟩ := h2
  have h10 := hb1.cell 0
  have h11 := hb1.cell 1
  have h20 := hb2.cell 0
  have h21 := hb2.cell 1
  simp only [List.getElem?_toArray, List.getElem?_cons_succ, List.getElem?_cons_zero] at h10 h11 h20 h21
  have HR1 := Lib.hid hr1
  have HR2 := Lib.hid hr2
  have H10 := Lib.hid h10
  have H11 := Lib.hid h11
  have H20 := Lib.hid h20
  have H21 := Lib.hid h21
  clear hb1 hb2 hr1 hr2 h10 h11 h20 h21
  by_cases hs : s1 = s2
  · subst hs
    have hb : (s1 == s1) = true := by simp
    go_enter Try.func32, Try.ntmps32
    go_wp2_with fail
    refine wp_region_seq (nt := 37) (by kernel_rfl) [0,1,2,3,4,5,6,7,8,9,10,11,12,13,14,15,16,17,18,19,20] [] Rb Rb.refl Rb.trans [(18, fun v w' => v = .bool (decide (l1 = l2)))] (by kernel_rfl) (by simp) rfl rfl (by simp) ⟨fun _ _ _ _ _ h => h, trivial⟩ ?_
    iterate 3 (refine' Sq.det (E := _) (b := _) (by rfl) (by rfl) (by rfl) (fun w' hR hf => ?_) ?_ ?_; rotate_left 2; (· (go_simp; first | done | with_reducible rfl)); (· (simp only [Act.put, List.setIfInBounds_toArray, List.set_cons_zero, List.set_cons_succ]; first | done | rfl)))
    (refine' Sq.det (E := _) (b := _) (by rfl) (by rfl) (by rfl) (fun w' hR hf => ?_) ?_ ?_; rotate_left 2; (· (have hcell : w'.cell? ⟨b1, 0, none⟩ = some (.int .i64 s1) := ((below_undrew hR).cell (p := ⟨b1, 0, none⟩) HL1.out).trans H10.out; go_simp; first | done | with_reducible rfl)); (· (simp only [Act.put, List.setIfInBounds_toArray, List.set_cons_zero, List.set_cons_succ]; first | done | rfl)))
    iterate 3 (refine' Sq.det (E := _) (b := _) (by rfl) (by rfl) (by rfl) (fun w' hR hf => ?_) ?_ ?_; rotate_left 2; (· (go_simp; first | done | with_reducible rfl)); (· (simp only [Act.put, List.setIfInBounds_toArray, List.set_cons_zero, List.set_cons_succ]; first | done | rfl)))
    (refine' Sq.det (E := _) (b := _) (by rfl) (by rfl) (by rfl) (fun w' hR hf => ?_) ?_ ?_; rotate_left 2; (· (have hcell : w'.cell? ⟨b2, 0, none⟩ = some (.int .i64 s1) := ((below_undrew hR).cell (p := ⟨b2, 0, none⟩) HL2.out).trans H20.out; go_simp; first | done | with_reducible rfl)); (· (simp only [Act.put, List.setIfInBounds_toArray, List.set_cons_zero, List.set_cons_succ]; first | done | rfl)))
    iterate 5 (refine' Sq.det (E := _) (b := _) (by rfl) (by rfl) (by rfl) (fun w' hR hf => ?_) ?_ ?_; rotate_left 2; (· (go_simp; first | done | with_reducible rfl)); (· (simp only [Act.put, List.setIfInBounds_toArray, List.set_cons_zero, List.set_cons_succ]; first | done | rfl)))
    (refine' Sq.det (E := _) (b := _) (by rfl) (by rfl) (by rfl) (fun w' hR hf => ?_) ?_ ?_; rotate_left 2; (· (have hcell : w'.cell? ⟨b1, 1, none⟩ = some (.slice A1 l1.length c1) := ((below_undrew hR).cell (p := ⟨b1, 1, none⟩) HL1.out).trans H11.out; go_simp; first | done | with_reducible rfl)); (· (simp only [Act.put, List.setIfInBounds_toArray, List.set_cons_zero, List.set_cons_succ]; first | done | rfl)))
    iterate 3 (refine' Sq.det (E := _) (b := _) (by rfl) (by rfl) (by rfl) (fun w' hR hf => ?_) ?_ ?_; rotate_left 2; (· (go_simp; first | done | with_reducible rfl)); (· (simp only [Act.put, List.setIfInBounds_toArray, List.set_cons_zero, List.set_cons_succ]; first | done | rfl)))
    (refine' Sq.det (E := _) (b := _) (by rfl) (by rfl) (by rfl) (fun w' hR hf => ?_) ?_ ?_; rotate_left 2; (· (have hcell : w'.cell? ⟨b2, 1, none⟩ = some (.slice A2 l2.length c2) := ((below_undrew hR).cell (p := ⟨b2, 1, none⟩) HL2.out).trans H21.out; go_simp; first | done | with_reducible rfl)); (· (simp only [Act.put, List.setIfInBounds_toArray, List.set_cons_zero, List.set_cons_succ]; first | done | rfl)))
    (refine' Sq.any (f := _) (by rfl) (by rfl) (by rfl) (fun w' hR hf => ?_) (fun v => ?_) (fun ve => ?_); (· (go_wp2_with (go_at_call 42; refine (equal42_any l1 l2 g1 c1 g2 c2 A1 A2 w' (HR1.out.below (below_undrew hR)) (HR2.out.below (below_undrew hR)) hl1 hl2).mono ?_; rintro e w1 ⟨rfl, hb1⟩); exact hb1)); rotate_left 1; (· (simp only [Act.put, List.setIfInBounds_toArray, List.set_cons_zero, List.set_cons_succ]; first | done | rfl)))
    (refine' Sq.det (E := _) (b := _) (by rfl) (by rfl) (by rfl) (fun w' hR hf => ?_) ?_ ?_; rotate_left 2; (· (have hv : ve = .bool (decide (l1 = l2)) := hf 18 (by decide) _ rfl; subst hv; go_simp; first | done | with_reducible rfl)); (· (simp only [Act.put, List.setIfInBounds_toArray, List.set_cons_zero, List.set_cons_succ]; first | done | rfl)))
    (refine' Sq.det (E := _) (b := _) (by rfl) (by rfl) (by rfl) (fun w' hR hf => ?_) ?_ ?_; rotate_left 2; (· (go_simp; first | done | with_reducible rfl)); (· (simp only [Act.put, List.setIfInBounds_toArray, List.set_cons_zero, List.set_cons_succ]; first | done | rfl)))
    refine Sq.done fun w2 hR hp => ?_
    have hv : ve = .bool (decide (l1 = l2)) := hp 18 (by decide) _ rfl
    subst hv
    have HB := Lib.hid (below_undrew hR)
    clear hR hp
    go_wp2
    go_ret
    exact ⟨by simp, HB.out⟩
  · have hb : (s1 == s2) = false := by simpa using hs
    go_enter Try.func32, Try.ntmps32
    go_wp2_with fail
    refine wp_region_seq (nt := 37) (by kernel_rfl) [0,1,2,3,4,5,6,7,8,9,10,11,12,13,14,15,16,17,18,19,20] [] Rb Rb.refl Rb.trans [] (by kernel_rfl) (by simp) rfl rfl (by simp) trivial ?_
    iterate 3 (refine' Sq.det (E := _) (b := _) (by rfl) (by rfl) (by rfl) (fun w' hR hf => ?_) ?_ ?_; rotate_left 2; (· (go_simp; first | done | with_reducible rfl)); (· (simp only [Act.put, List.setIfInBounds_toArray, List.set_cons_zero, List.set_cons_succ]; first | done | rfl)))
    (refine' Sq.det (E := _) (b := _) (by rfl) (by rfl) (by rfl) (fun w' hR hf => ?_) ?_ ?_; rotate_left 2; (· (have hcell : w'.cell? ⟨b1, 0, none⟩ = some (.int .i64 s1) := ((below_undrew hR).cell (p := ⟨b1, 0, none⟩) HL1.out).trans H10.out; go_simp; first | done | with_reducible rfl)); (· (simp only [Act.put, List.setIfInBounds_toArray, List.set_cons_zero, List.set_cons_succ]; first | done | rfl)))
    iterate 3 (refine' Sq.det (E := _) (b := _) (by rfl) (by rfl) (by rfl) (fun w' hR hf => ?_) ?_ ?_; rotate_left 2; (· (go_simp; first | done | with_reducible rfl)); (· (simp only [Act.put, List.setIfInBounds_toArray, List.set_cons_zero, List.set_cons_succ]; first | done | rfl)))
    (refine' Sq.det (E := _) (b := _) (by rfl) (by rfl) (by rfl) (fun w' hR hf => ?_) ?_ ?_; rotate_left 2; (· (have hcell : w'.cell? ⟨b2, 0, none⟩ = some (.int .i64 s2) := ((below_undrew hR).cell (p := ⟨b2, 0, none⟩) HL2.out).trans H20.out; go_simp; first | done | with_reducible rfl)); (· (simp only [Act.put, List.setIfInBounds_toArray, List.set_cons_zero, List.set_cons_succ]; first | done | rfl)))
    iterate 2 (refine' Sq.det (E := _) (b := _) (by rfl) (by rfl) (by rfl) (fun w' hR hf => ?_) ?_ ?_; rotate_left 2; (· (go_simp; first | done | with_reducible rfl)); (· (simp only [Act.put, List.setIfInBounds_toArray, List.set_cons_zero, List.set_cons_succ]; first | done | rfl)))
    iterate 9 (refine' Sq.skip (b := _) (by rfl) (by rfl) (by rfl) ?_ ?_; rotate_left 1; (· (simp only [Act.put, List.setIfInBounds_toArray, List.set_cons_zero, List.set_cons_succ]; first | done | rfl)))
    iterate 2 (refine' Sq.det (E := _) (b := _) (by rfl) (by rfl) (by rfl) (fun w' hR hf => ?_) ?_ ?_; rotate_left 2; (· (go_simp; first | done | with_reducible rfl)); (· (simp only [Act.put, List.setIfInBounds_toArray, List.set_cons_zero, List.set_cons_succ]; first | done | rfl)))
    refine Sq.done fun w2 hR hp => ?_
    have HB := Lib.hid (below_undrew hR)
    clear hR hp
    go_wp2
    go_ret
    exact ⟨by simp [hs], HB.out⟩
end Go.Proofs.Ytbcejdmgdgghfaa
