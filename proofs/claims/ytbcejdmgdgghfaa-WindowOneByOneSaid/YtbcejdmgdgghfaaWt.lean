/- Contract of the model's do, four ways more. Conditions: at most 1,000 offers, outcomes from 0 to 5. -/
import Derived.Test.YtbcejdmgdgghfaaWs
namespace Go.Proofs.Ytbcejdmgdgghfaa
set_option linter.unusedSimpArgs false
set_option linter.unusedVariables false
set_option linter.unnecessarySimpa false
open Go.RowKit

theorem fill_part (place : Nat → Option (Nat × Nat)) : ∀ (vs : List Value) (s off : Nat) (done rest : List Value), Places place s off vs → done.length = off → (flatc vs).length ≤ rest.length →
    Instr.fill place (done ++ rest).toArray (numbered s vs) = some (done ++ flatc vs ++ rest.drop (flatc vs).length).toArray
  | [], s, off, done, rest, _, _, h => by simp [numbered, Instr.fill, flatc]
  | v :: vs, s, off, done, rest, ⟨hp, hps⟩, hd, h => by
    have hfl : (flatc (v :: vs)).length = v.cells.size + (flatc vs).length := by simp [flatc]
    rw [numbered, Instr.fill, hp]
    simp only
    have hle : ¬ (off + v.cells.size > (done ++ rest).toArray.size) := by simp; omega
    rw [if_neg (by simpa using hle)]
    have e := foldl_set off v.cells.toList 0 done rest (by omega) (by simp; omega)
    have e' : v.cells.zipIdx.foldl (fun (cs : Array Value) (x : Value × Nat) => match x with | (c, j) => cs.setIfInBounds (off + j) c) (done ++ rest).toArray = ((done ++ v.cells.toList) ++ rest.drop v.cells.toList.length).toArray := by
      rw [← e, ← Array.foldl_toList, Array.toList_zipIdx]
    rw [e']
    rw [fill_part place vs (s + 1) (off + v.cells.size) (done ++ v.cells.toList) _ hps (by simp; omega) (by simp; omega)]
    simp [flatc, List.drop_drop]
theorem exec_build72 {w : World} {ρ : Operand → Value} {dst : Option Tmp} {t : TypeId} {p : String} {af : Array Edge} {gd : Option (Nat × Bool)} (x y : Operand) (i : Id) (n : Int) (hx : ρ x = .agg (idc i).toArray) (hy : ρ y = .int .i64 n) :
    (execOp ρ ⟨dst, .build 72 #[(0, x), (1, y)], t, p, af, gd⟩).run Try.prog w = .ok (.value (.agg (ofrc ⟨i, n, 0⟩).toArray)) w := by
  obtain ⟨i0, hi0, hz0, _, _⟩ := info_parts info72
  have hz' : (zeroValue 72).run Try.prog w = .ok z81 w := by simp [zeroValue, typeInfo, hi0, hz0]
  have hlen : (flatc [Value.agg (idc i).toArray, .int .i64 n]).length = 33 := by simp [flatc, Value.cells, idc_len]
  have hf := fill_part ((#[(0, 32), (32, 1), (33, 1)] : Array (Nat × Nat))[·]?) [.agg (idc i).toArray, .int .i64 n] 0 0 [] (zid ++ [.int .i64 0, .int .i64 0]) (by simp [Places, Value.cells, idc_len]) rfl (by rw [hlen]; simp [zid])
  rw [hlen] at hf
  have e : ([] ++ flatc [Value.agg (idc i).toArray, .int .i64 n] ++ (zid ++ [Value.int .i64 0, .int .i64 0]).drop 33) = ofrc ⟨i, n, 0⟩ := by
    simp [flatc, ofrc, Value.cells, zid]
  rw [e, List.nil_append] at hf
  unfold execOp
  simp only [List.map_toArray, List.map_cons, List.map_nil, hx, hy]
  unfold Instr.build
  simp only [Sem.run_bind, hz', Result.andThen_ok, Sem.run_pure, run_underlying structs72 w, fields72 w]
  simp only [z81, Value.cells]
  simp only [numbered] at hf
  rw [hf]
  rfl

/-- the copy's slice was appended to, then stored -/
theorem DoVars.pushed {w wx wy : World} {bn g c : Nat} {s s' : Int} {A : Option Addr} {l l' l2 : List Ofr} {o : Op'} {v v2 : Value} (h : DoVars w w.heap.size s A c l g o s' v l' bn wx) (hg : wx.grownBy wy v.ownBlock) (ho : wy.ownsRow (w.heap.size + 3) 72 34 v2 l2.length (l2.flatMap ofrc)) :
    Blk wy bn 58 #[.int .i64 s', v] ∧ DoVars w w.heap.size s A c l g o s' v2 l2 bn (wy.setCell ⟨bn, 1, none⟩ v2) := by
  have hge : ∀ x, v.ownBlock = some x → w.heap.size + 3 ≤ x := fun x hx => (h.own.lt x hx).1
  have hn : Blk wy bn 58 #[.int .i64 s', v] := h.n.grown hg (fun e => own_blk_ne h.own h.n (by decide) e.symm)
  have hn2 := hn.set_ 1 v2
  simp only [List.setIfInBounds_toArray, List.set_cons_succ, List.set_cons_zero] at hn2
  have hlt := h.lt
  have hne2 := own_blk_ne ho hn (by decide)
  refine ⟨hn, ⟨(h.m.grown hg fun e => ?_).far (p := ⟨bn, 1, none⟩) (by simp; omega) _, (h.op.grown hg fun e => ?_).far (p := ⟨bn, 1, none⟩) (by simp; omega) _, (h.res.grown hg fun e => ?_).far (p := ⟨bn, 1, none⟩) (by simp; omega) _, hn2, ho.kept (grownBy_setCell _ _ _ _) (.inr hne2), ?_, hlt, h.gl, ?_⟩⟩
  · have := hge _ e.symm; omega
  · have := hge _ e.symm; omega
  · have := hge _ e.symm; omega
  · rcases h.gl with h' | h'
    · exact (h.rd.grown hg fun e => by have := hge _ e.symm; omega).grown (grownBy_setCell _ _ _ _) (by simp; omega)
    · subst h'; exact Rd.nil _ _ _ _
  · exact (h.below.grown hg h.below.size fun x hx => by have := hge x hx; omega).grown (grownBy_setCell _ _ _ _) (Nat.le_trans h.below.size hg.size) (fun x hx => by simp at hx; omega)
theorem DoVars.sized {w wx : World} {bn g c : Nat} {s s' s2 : Int} {A : Option Addr} {l l' : List Ofr} {o : Op'} {v : Value} (h : DoVars w w.heap.size s A c l g o s' v l' bn wx) :
    DoVars w w.heap.size s A c l g o s2 v l' bn (wx.setCell ⟨bn, 0, none⟩ (.int .i64 s2)) := by
  have hn2 := h.n.set_ 0 (.int .i64 s2)
  simp only [List.setIfInBounds_toArray, List.set_cons_succ, List.set_cons_zero] at hn2
  have hlt := h.lt
  refine ⟨h.m.far (p := ⟨bn, 0, none⟩) (by simp; omega) _, h.op.far (p := ⟨bn, 0, none⟩) (by simp; omega) _, h.res.far (p := ⟨bn, 0, none⟩) (by simp; omega) _, hn2, h.own.kept (grownBy_setCell _ _ _ _) (.inr (own_blk_ne h.own h.n (by decide))), ?_, hlt, h.gl, ?_⟩
  · rcases h.gl with h' | h'
    · exact h.rd.grown (grownBy_setCell _ _ _ _) (by simp; omega)
    · subst h'; exact Rd.nil _ _ _ _
  · exact h.below.grown (grownBy_setCell _ _ _ _) h.below.size (fun x hx => by simp at hx; omega)
theorem DoVars.n0 {w wx : World} {b bn g c : Nat} {s s' : Int} {A : Option Addr} {l l' : List Ofr} {o : Op'} {v : Value} (h : DoVars w b s A c l g o s' v l' bn wx) : wx.cell? ⟨bn, 0, none⟩ = some (.int .i64 s') := by rw [h.n.cell]; rfl
theorem DoVars.n1 {w wx : World} {b bn g c : Nat} {s s' : Int} {A : Option Addr} {l l' : List Ofr} {o : Op'} {v : Value} (h : DoVars w b s A c l g o s' v l' bn wx) : wx.cell? ⟨bn, 1, none⟩ = some v := by rw [h.n.cell]; rfl
theorem DoVars.nf {w wx : World} {b bn g c : Nat} {s s' : Int} {A : Option Addr} {l l' : List Ofr} {o : Op'} {v : Value} (h : DoVars w b s A c l g o s' v l' bn wx) (i : Nat) : wx.frozen? ⟨bn, i, none⟩ = false := h.n.frozen i


set_option maxRecDepth 20000 in
set_option maxHeartbeats 2000000 in
theorem do_0c (g c : Nat) (A : Option Addr) (s : Int) (l : List Ofr) (o : Op') (ix : Int) (w : World) (hr : Rd w g 34 A l.length (l.flatMap ofrc)) (hl : l.length ≤ 1000) (hlc : l.length ≤ c) (hok : OkL l) (HIX : Hid (idxI (isId o.id) l 0 = ix)) (HK : Hid (knd o = 0)) (HN : Hid (badN o.n = false)) (HH : Hid (hasId l o.id = false)) (h0 : ix < 0) (hbz : s ≤ ((outs l).length : Int)) :
    Calls Try.prog 33 #[.agg #[.int .i64 s, .slice A l.length c], .agg (opc o).toArray] w (MPost w g (stepW s l o)) := by
  have hkl := o.kind.toNat_lt
  obtain ⟨i0, hi0, hz0, hz1, hz2⟩ := info_parts info72
  have hb3 : Below w.heap.size w (((w.alloc (.cells #[.int .i64 s, .slice A l.length c] 58)).alloc (.cells (opc o).toArray 51)).alloc (.cells #[.int .i64 0, .slice none 0 0] 58)) := ((bnew w _).trans' (bnew _ _)).trans' (bnew _ _)
  have HR := Lib.hid (hr.below hb3)
  have hgl : g < w.heap.size ∨ l = [] := by
    rcases Nat.eq_zero_or_pos l.length with h0 | h0
    · exact .inr (List.eq_nil_of_length_eq_zero h0)
    · exact .inl (hr.2 h0).1
  have HGL := Lib.hid hgl
  have HB := Lib.hid hb3
  have hm := ((Blk.new w 58 #[.int .i64 s, .slice A l.length c]).alloc (.cells (opc o).toArray 51)).alloc (.cells #[.int .i64 0, .slice none 0 0] 58)
  have HM := Lib.hid hm
  have hop : Blk (((w.alloc (.cells #[.int .i64 s, .slice A l.length c] 58)).alloc (.cells (opc o).toArray 51)).alloc (.cells #[.int .i64 0, .slice none 0 0] 58)) (w.heap.size + 1) 51 (opc o).toArray := by simpa using ((Blk.new (w.alloc (.cells #[.int .i64 s, .slice A l.length c] 58)) 51 (opc o).toArray).alloc (.cells #[.int .i64 0, .slice none 0 0] 58))
  have HOP := Lib.hid hop
  have hrs : Blk (((w.alloc (.cells #[.int .i64 s, .slice A l.length c] 58)).alloc (.cells (opc o).toArray 51)).alloc (.cells #[.int .i64 0, .slice none 0 0] 58)) (w.heap.size + 2) 58 #[.int .i64 0, .slice none 0 0] := by simpa using (Blk.new ((w.alloc (.cells #[.int .i64 s, .slice A l.length c] 58)).alloc (.cells (opc o).toArray 51)) 58 #[.int .i64 0, .slice none 0 0])
  have HRS := Lib.hid hrs
  have m0 := hm.cell 0
  have m1 := hm.cell 1
  simp only [List.getElem?_toArray, List.getElem?_cons_succ, List.getElem?_cons_zero] at m0 m1
  have hlt := hm.lt
  have hsz3 : w.heap.size + 3 = (((w.alloc (.cells #[.int .i64 s, .slice A l.length c] 58)).alloc (.cells (opc o).toArray 51)).alloc (.cells #[.int .i64 0, .slice none 0 0] 58)).heap.size := by simp
  have HSZ := Lib.hid hsz3
  have HLT := Lib.hid hlt
  have M0 := Lib.hid m0
  have M1 := Lib.hid m1
  have HOK := Lib.hid hok
  clear hr hb3 hm m0 m1 hlt hsz3 hgl hok hop hrs
  go_enter Try.func33, Try.ntmps33
  go_wp2_with fail
  refine wp_region_seq (nt := 166) (by kernel_rfl) [0,1,2,3,4,5,6,7] [8] Rb Rb.refl Rb.trans [(2, fun v w' => ∃ g0, v = .slice (some ⟨g0, 0, none⟩) 0 0 ∧ w'.ownsRow (w.heap.size + 3) 72 34 v 0 []), (5, fun v w' => w'.ownsRow (w.heap.size + 3) 72 34 v l.length (l.flatMap ofrc)), (7, fun v w' => ∃ k, v = .pointer (some ⟨k, 0, none⟩) ∧ w.heap.size + 3 ≤ k ∧ Blk w' k 58 #[.int .i64 0, .slice none 0 0])] (by kernel_rfl) (by simp) rfl (by kernel_rfl) (by simp) ?_ ?_
  · refine ⟨fun v w w' _ h2 ⟨g0, h, h'⟩ => ⟨g0, h, below_kept h' h2⟩, fun v w w' _ h2 h => below_kept h h2, fun v w w' _ h2 h => ?_, trivial⟩
    obtain ⟨k, rfl, hk0, hk⟩ := h
    exact ⟨k, rfl, hk0, hk.below h2⟩
  (refine' Sq.det (E := _) (b := _) (by rfl) (by rfl) (by rfl) (fun w' hR hf => ?_) ?_ ?_; rotate_left 2; (· (go_simp; first | done | with_reducible rfl)); (· (simp only [Act.put, List.setIfInBounds_toArray, List.set_cons_zero, List.set_cons_succ]; first | done | rfl)))
  (refine' Sq.det (E := _) (b := _) (by rfl) (by rfl) (by rfl) (fun w' hR hf => ?_) ?_ ?_; rotate_left 2; (· (have hc : w'.cell? ⟨w.heap.size, 0, none⟩ = some (.int .i64 s) := ((below_undrew hR).cell (p := ⟨w.heap.size, 0, none⟩) HLT.out).trans M0.out; go_simp; first | done | with_reducible rfl)); (· (simp only [Act.put, List.setIfInBounds_toArray, List.set_cons_zero, List.set_cons_succ]; first | done | rfl)))
  (refine' Sq.any (f := _) (by rfl) (by rfl) (by rfl) (fun w' hR hf => ?_) (fun v => ?_) (fun v0 => ?_); (· (refine wp_buildSlice 56 0 _ rfl 72 i0 z81 34 Try.underlying56 hi0 hz0 hz1 [] rfl (by simp [numbered]) (by simp) (by simp) ?_; exact ⟨rfl, bnew _ _, _, rfl, World.ownsRow_made w' _ 0 (Nat.le_trans (Nat.le_of_eq HSZ.out) (below_undrew hR).size) (Nat.zero_le _) rfl⟩)); rotate_left 1; (· (simp only [Act.put, List.setIfInBounds_toArray, List.set_cons_zero, List.set_cons_succ]; first | done | rfl)))
  (refine' Sq.det (E := _) (b := _) (by rfl) (by rfl) (by rfl) (fun w' hR hf => ?_) ?_ ?_; rotate_left 2; (· (go_simp; first | done | with_reducible rfl)); (· (simp only [Act.put, List.setIfInBounds_toArray, List.set_cons_zero, List.set_cons_succ]; first | done | rfl)))
  (refine' Sq.det (E := _) (b := _) (by rfl) (by rfl) (by rfl) (fun w' hR hf => ?_) ?_ ?_; rotate_left 2; (· (have hc : w'.cell? ⟨w.heap.size, 1, none⟩ = some (.slice A l.length c) := ((below_undrew hR).cell (p := ⟨w.heap.size, 1, none⟩) HLT.out).trans M1.out; go_simp; first | done | with_reducible rfl)); (· (simp only [Act.put, List.setIfInBounds_toArray, List.set_cons_zero, List.set_cons_succ]; first | done | rfl)))
  (refine' Sq.any (f := _) (by rfl) (by rfl) (by rfl) (fun w' hR hf => ?_) (fun v => ?_) (fun v5 => ?_); (· (obtain ⟨g0, hv0, hv⟩ : ∃ g0, v0 = .slice (some ⟨g0, 0, none⟩) 0 0 ∧ w'.ownsRow (w.heap.size + 3) 72 34 v0 0 [] := hf 2 (by decide) _ rfl; subst hv0; refine wp_app_zero _ _ 56 rfl (w.heap.size + 3) 72 i0 z81 34 48 Try.underlying56 hi0 hz0 hz1 hz2 z81_size (by omega) g0 (by kernel_rfl) hv g A l.length c (l.flatMap ofrc) (by kernel_rfl) (HR.out.below (below_undrew hR)) (by simp only [maxLen]; omega) (by omega) (Nat.le_trans (Nat.le_of_eq HSZ.out) (below_undrew hR).size) ?_; intro v' w1 ho1 hg1; exact ⟨rfl, hg1, ho1⟩)); rotate_left 1; (· (simp only [Act.put, List.setIfInBounds_toArray, List.set_cons_zero, List.set_cons_succ]; first | done | rfl)))
  (refine' Sq.det (E := _) (b := _) (by rfl) (by rfl) (by rfl) (fun w' hR hf => ?_) ?_ ?_; rotate_left 2; (· (have hv : w'.ownsRow (w.heap.size + 3) 72 34 v5 l.length (l.flatMap ofrc) := hf 5 (by decide) _ rfl; exact exec_build58 _ _ s v5 (by kernel_rfl) (by kernel_rfl) (own_slice' hv))); (· (simp only [Act.put, List.setIfInBounds_toArray, List.set_cons_zero, List.set_cons_succ]; first | done | rfl)))
  (refine' Sq.any (f := _) (by rfl) (by rfl) (by rfl) (fun w' hR hf => ?_) (fun v => ?_) (fun v7 => ?_); (· (refine wp_alloc_blk 58 rfl z58 [.int .i64 0, .slice none 0 0] rfl info58z ?_; intro w1 hk1 hk2; exact ⟨rfl, hk2, _, rfl, Nat.le_trans (Nat.le_of_eq HSZ.out) (below_undrew hR).size, hk1⟩)); rotate_left 1; (· (simp only [Act.put, List.setIfInBounds_toArray, List.set_cons_zero, List.set_cons_succ]; first | done | rfl)))
  refine Sq.tail1 (by rfl) fun wq hR hps => ?_
  have h5 : wq.ownsRow (w.heap.size + 3) 72 34 v5 l.length (l.flatMap ofrc) := hps 5 (by decide) _ rfl
  obtain ⟨bn, hbn, hb3, hblk⟩ : ∃ k, v7 = .pointer (some ⟨k, 0, none⟩) ∧ w.heap.size + 3 ≤ k ∧ Blk wq k 58 #[.int .i64 0, .slice none 0 0] := hps 7 (by decide) _ rfl
  subst hbn
  clear hps
  have hR' := below_undrew hR
  refine wpList_store_blk rfl 58 _ _ rfl bn 0 58 [.int .i64 0, .slice none 0 0] [.int .i64 s, v5] hblk (by kernel_rfl) (by kernel_rfl) (size58' _ _) (by simp) (by obtain ⟨A, n, c, rfl⟩ := own_slice' h5; simp [Value.oneCell']) ?_
  intro w1 hn1 hg1 hz1'
  have hne := own_blk_ne h5 hblk (by decide)
  have hrd : Rd w1 g 34 A l.length (l.flatMap ofrc) := by
    rcases HGL.out with h | h
    · exact (HR.out.below hR').grown hg1 (by simp; omega)
    · subst h; exact Rd.nil _ _ _ _
  have hdv : DoVars w w.heap.size s A c l g o s v5 l bn w1 :=
    ⟨(HM.out.below hR').grown hg1 (by simp; omega), (HOP.out.below hR').grown hg1 (by simp; omega), (HRS.out.below hR').grown hg1 (by simp; omega), hn1, h5.kept hg1 (.inr hne), hrd, hb3, HGL.out, (HB.out.trans (hR'.mono HB.out.size)).grown hg1 (Nat.le_trans HB.out.size hR'.size) (fun x hx => by simp at hx; omega)⟩
  have HD := Lib.hid hdv
  obtain ⟨A5, n5, c5, rfl⟩ := own_slice' h5
  clear hdv hrd hne hn1 hg1 hz1' hR' hblk h5 hR HR HB HM HOP HRS HSZ HLT M0 M1 HGL
  have hrm := rem5 o.kind.toNat (by omega) 0 HK.out
  have hn := HN.out
  unfold badN at hn
  simp only [Bool.or_eq_false_iff] at hn
  obtain ⟨hn1, hn2⟩ := hn
  go_wp2_with (first
    | (with_reducible refine at_dst 19 ?_; refine wpList_load_cells rfl 58 _ rfl w.heap.size 0 [.int .i64 s, .slice A l.length c] rfl _ Try.underlying58 rfl (size58' _ _) (fun j u hu => by rw [Nat.zero_add, HD.out.m.cell, List.getElem?_toArray]; exact hu) ?_)
    | (with_reducible refine at_dst 21 ?_; refine wpList_load_cells rfl 37 _ rfl (w.heap.size + 1) 1 (idc o.id) rfl _ Try.underlying37 rfl (sz_id _) (fun j u hu => ?_) ?_; (have hj : j < 32 := by (have := (List.getElem?_eq_some_iff.1 hu).1; rwa [idc_len] at this)); (rw [HD.out.op.cell, List.getElem?_toArray, opc_id _ j hj]; exact hu))
    | (go_at_call 30; with_reducible refine (mfind_any g c A s l o.id _ HD.out.rd (by omega)).mono ?_; rintro e w2 ⟨he, hb2⟩; rw [HIX.out] at he; subst he; have HD2 := Lib.hid (HD.out.below_ hb2); have hc0 := HD2.out.op0; have hc33 := HD2.out.op33; have hm0 := HD2.out.m0; have hm1 := HD2.out.m1; clear hb2)
    )
  refine wp_region_seq (nt := 166) (by kernel_rfl) [0,1,2,3,4,5] [] Rb Rb.refl Rb.trans [(1, fun v w' => ∃ A c, v = .slice A (outs l).length c)] (by kernel_rfl) (by simp) rfl rfl (by simp) ⟨fun _ _ _ _ _ h => h, trivial⟩ ?_
  (refine' Sq.det (E := _) (b := _) (by rfl) (by rfl) (by rfl) (fun w' hR hf => ?_) ?_ ?_; rotate_left 2; (· (refine exec_load_cells 58 _ w.heap.size 0 [.int .i64 s, .slice A l.length c] ?_ _ Try.underlying58 rfl (size58' _ _) (fun j u hu => ?_); (· kernel_rfl); (rw [Nat.zero_add, (HD2.out.m.below (below_undrew hR)).cell, List.getElem?_toArray]; exact hu))); (· (simp only [Act.put, List.setIfInBounds_toArray, List.set_cons_zero, List.set_cons_succ]; first | done | rfl)))
  (refine' Sq.any (f := _) (by rfl) (by rfl) (by rfl) (fun w' hR hf => ?_) (fun v => ?_) (fun v1 => ?_); (· (go_wp2_with (go_at_call 27; refine (mout_any g c A s l w' (HD2.out.rd.below (below_undrew hR)) (by omega) HOK.out).mono ?_; rintro e w1 ⟨v, rfl, ho, hb1⟩); obtain ⟨A', c', rfl⟩ := own_slice ho; exact ⟨hb1, _, _, rfl⟩)); rotate_left 1; (· (simp only [Act.put, List.setIfInBounds_toArray, List.set_cons_zero, List.set_cons_succ]; first | done | rfl)))
  (refine' Sq.det (E := _) (b := _) (by rfl) (by rfl) (by rfl) (fun w' hR hf => ?_) ?_ ?_; rotate_left 2; (· (have hv : ∃ A c, v1 = .slice A (outs l).length c := hf 1 (by decide) _ rfl; obtain ⟨A1, c1, rfl⟩ := hv; go_simp; first | done | with_reducible rfl)); (· (simp only [Act.put, List.setIfInBounds_toArray, List.set_cons_zero, List.set_cons_succ]; first | done | rfl)))
  (refine' Sq.det (E := _) (b := _) (by rfl) (by rfl) (by rfl) (fun w' hR hf => ?_) ?_ ?_; rotate_left 2; (· (go_simp; first | done | with_reducible rfl)); (· (simp only [Act.put, List.setIfInBounds_toArray, List.set_cons_zero, List.set_cons_succ]; first | done | rfl)))
  (refine' Sq.det (E := _) (b := _) (by rfl) (by rfl) (by rfl) (fun w' hR hf => ?_) ?_ ?_; rotate_left 2; (· (have hc := (HD2.out.below_ (below_undrew hR)).m0; go_simp; first | done | with_reducible rfl)); (· (simp only [Act.put, List.setIfInBounds_toArray, List.set_cons_zero, List.set_cons_succ]; first | done | rfl)))
  (refine' Sq.det (E := _) (b := _) (by rfl) (by rfl) (by rfl) (fun w' hR hf => ?_) ?_ ?_; rotate_left 2; (· (go_simp; first | done | with_reducible rfl)); (· (simp only [Act.put, List.setIfInBounds_toArray, List.set_cons_zero, List.set_cons_succ]; first | done | rfl)))
  refine Sq.done fun w3 hR _ => ?_
  have HD3 := Lib.hid (HD2.out.below_ (below_undrew hR))
  have hc33' := HD3.out.op33
  have hn1' := HD3.out.n1
  clear hR hc0 hc33 hm0 hm1
  go_wp2_with (first
    | (with_reducible refine at_dst 58 ?_; refine wpList_load_cells rfl 58 _ rfl w.heap.size 0 [.int .i64 s, .slice A l.length c] rfl _ Try.underlying58 rfl (size58' _ _) (fun j u hu => by rw [Nat.zero_add, HD3.out.m.cell, List.getElem?_toArray]; exact hu) ?_)
    | (with_reducible refine at_store 58 4 ?_; refine wpList_store_blk rfl 58 _ _ rfl (w.heap.size + 1 + 1) 0 58 [.int .i64 0, .slice none 0 0] [.int .i64 s, .slice A l.length c] HD3.out.res rfl rfl (size58' _ _) (by simp) (by simp [Value.oneCell']) ?_; intro w9 hn9 hg9 _; have hr0 := hn9.cell 0; have hr1 := hn9.cell 1; simp only [List.getElem?_toArray, List.take_zero, List.nil_append, List.length_cons, List.length_nil, Nat.zero_add, List.drop_succ_cons, List.drop_zero, List.append_nil, List.cons_append, List.getElem?_cons_succ, List.getElem?_cons_zero] at hr0 hr1; have HG9 := Lib.hid hg9; clear hn9 hg9)
    )
  refine bodyPost_ret (v := .tuple #[.agg #[.int .i64 s, .slice A l.length c], .int .i64 25, .slice none 0 0, .slice none 0 0]) (by simp [results, Try.results33, go_sem, hr0, hr1]) rfl ?_
  refine mpost_same HD3.out HG9.out hlc ?_
  rw [stepW, if_pos HK.out]
  simp [offL, offE, HN.out, HH.out, busyB, hbz]


set_option maxRecDepth 20000 in
set_option maxHeartbeats 2000000 in
theorem do_0d (g c : Nat) (A : Option Addr) (s : Int) (l : List Ofr) (o : Op') (ix : Int) (w : World) (hr : Rd w g 34 A l.length (l.flatMap ofrc)) (hl : l.length ≤ 1000) (hlc : l.length ≤ c) (hok : OkL l) (HIX : Hid (idxI (isId o.id) l 0 = ix)) (HK : Hid (knd o = 0)) (HN : Hid (badN o.n = false)) (HH : Hid (hasId l o.id = false)) (h0 : ix < 0) (hbz : ((outs l).length : Int) < s) :
    Calls Try.prog 33 #[.agg #[.int .i64 s, .slice A l.length c], .agg (opc o).toArray] w (MPost w g (stepW s l o)) := by
  have hkl := o.kind.toNat_lt
  obtain ⟨i0, hi0, hz0, hz1, hz2⟩ := info_parts info72
  have hb3 : Below w.heap.size w (((w.alloc (.cells #[.int .i64 s, .slice A l.length c] 58)).alloc (.cells (opc o).toArray 51)).alloc (.cells #[.int .i64 0, .slice none 0 0] 58)) := ((bnew w _).trans' (bnew _ _)).trans' (bnew _ _)
  have HR := Lib.hid (hr.below hb3)
  have hgl : g < w.heap.size ∨ l = [] := by
    rcases Nat.eq_zero_or_pos l.length with h0 | h0
    · exact .inr (List.eq_nil_of_length_eq_zero h0)
    · exact .inl (hr.2 h0).1
  have HGL := Lib.hid hgl
  have HB := Lib.hid hb3
  have hm := ((Blk.new w 58 #[.int .i64 s, .slice A l.length c]).alloc (.cells (opc o).toArray 51)).alloc (.cells #[.int .i64 0, .slice none 0 0] 58)
  have HM := Lib.hid hm
  have hop : Blk (((w.alloc (.cells #[.int .i64 s, .slice A l.length c] 58)).alloc (.cells (opc o).toArray 51)).alloc (.cells #[.int .i64 0, .slice none 0 0] 58)) (w.heap.size + 1) 51 (opc o).toArray := by simpa using ((Blk.new (w.alloc (.cells #[.int .i64 s, .slice A l.length c] 58)) 51 (opc o).toArray).alloc (.cells #[.int .i64 0, .slice none 0 0] 58))
  have HOP := Lib.hid hop
  have hrs : Blk (((w.alloc (.cells #[.int .i64 s, .slice A l.length c] 58)).alloc (.cells (opc o).toArray 51)).alloc (.cells #[.int .i64 0, .slice none 0 0] 58)) (w.heap.size + 2) 58 #[.int .i64 0, .slice none 0 0] := by simpa using (Blk.new ((w.alloc (.cells #[.int .i64 s, .slice A l.length c] 58)).alloc (.cells (opc o).toArray 51)) 58 #[.int .i64 0, .slice none 0 0])
  have HRS := Lib.hid hrs
  have m0 := hm.cell 0
  have m1 := hm.cell 1
  simp only [List.getElem?_toArray, List.getElem?_cons_succ, List.getElem?_cons_zero] at m0 m1
  have hlt := hm.lt
  have hsz3 : w.heap.size + 3 = (((w.alloc (.cells #[.int .i64 s, .slice A l.length c] 58)).alloc (.cells (opc o).toArray 51)).alloc (.cells #[.int .i64 0, .slice none 0 0] 58)).heap.size := by simp
  have HSZ := Lib.hid hsz3
  have HLT := Lib.hid hlt
  have M0 := Lib.hid m0
  have M1 := Lib.hid m1
  have HOK := Lib.hid hok
  clear hr hb3 hm m0 m1 hlt hsz3 hgl hok hop hrs
  go_enter Try.func33, Try.ntmps33
  go_wp2_with fail
  refine wp_region_seq (nt := 166) (by kernel_rfl) [0,1,2,3,4,5,6,7] [8] Rb Rb.refl Rb.trans [(2, fun v w' => ∃ g0, v = .slice (some ⟨g0, 0, none⟩) 0 0 ∧ w'.ownsRow (w.heap.size + 3) 72 34 v 0 []), (5, fun v w' => w'.ownsRow (w.heap.size + 3) 72 34 v l.length (l.flatMap ofrc)), (7, fun v w' => ∃ k, v = .pointer (some ⟨k, 0, none⟩) ∧ w.heap.size + 3 ≤ k ∧ Blk w' k 58 #[.int .i64 0, .slice none 0 0])] (by kernel_rfl) (by simp) rfl (by kernel_rfl) (by simp) ?_ ?_
  · refine ⟨fun v w w' _ h2 ⟨g0, h, h'⟩ => ⟨g0, h, below_kept h' h2⟩, fun v w w' _ h2 h => below_kept h h2, fun v w w' _ h2 h => ?_, trivial⟩
    obtain ⟨k, rfl, hk0, hk⟩ := h
    exact ⟨k, rfl, hk0, hk.below h2⟩
  (refine' Sq.det (E := _) (b := _) (by rfl) (by rfl) (by rfl) (fun w' hR hf => ?_) ?_ ?_; rotate_left 2; (· (go_simp; first | done | with_reducible rfl)); (· (simp only [Act.put, List.setIfInBounds_toArray, List.set_cons_zero, List.set_cons_succ]; first | done | rfl)))
  (refine' Sq.det (E := _) (b := _) (by rfl) (by rfl) (by rfl) (fun w' hR hf => ?_) ?_ ?_; rotate_left 2; (· (have hc : w'.cell? ⟨w.heap.size, 0, none⟩ = some (.int .i64 s) := ((below_undrew hR).cell (p := ⟨w.heap.size, 0, none⟩) HLT.out).trans M0.out; go_simp; first | done | with_reducible rfl)); (· (simp only [Act.put, List.setIfInBounds_toArray, List.set_cons_zero, List.set_cons_succ]; first | done | rfl)))
  (refine' Sq.any (f := _) (by rfl) (by rfl) (by rfl) (fun w' hR hf => ?_) (fun v => ?_) (fun v0 => ?_); (· (refine wp_buildSlice 56 0 _ rfl 72 i0 z81 34 Try.underlying56 hi0 hz0 hz1 [] rfl (by simp [numbered]) (by simp) (by simp) ?_; exact ⟨rfl, bnew _ _, _, rfl, World.ownsRow_made w' _ 0 (Nat.le_trans (Nat.le_of_eq HSZ.out) (below_undrew hR).size) (Nat.zero_le _) rfl⟩)); rotate_left 1; (· (simp only [Act.put, List.setIfInBounds_toArray, List.set_cons_zero, List.set_cons_succ]; first | done | rfl)))
  (refine' Sq.det (E := _) (b := _) (by rfl) (by rfl) (by rfl) (fun w' hR hf => ?_) ?_ ?_; rotate_left 2; (· (go_simp; first | done | with_reducible rfl)); (· (simp only [Act.put, List.setIfInBounds_toArray, List.set_cons_zero, List.set_cons_succ]; first | done | rfl)))
  (refine' Sq.det (E := _) (b := _) (by rfl) (by rfl) (by rfl) (fun w' hR hf => ?_) ?_ ?_; rotate_left 2; (· (have hc : w'.cell? ⟨w.heap.size, 1, none⟩ = some (.slice A l.length c) := ((below_undrew hR).cell (p := ⟨w.heap.size, 1, none⟩) HLT.out).trans M1.out; go_simp; first | done | with_reducible rfl)); (· (simp only [Act.put, List.setIfInBounds_toArray, List.set_cons_zero, List.set_cons_succ]; first | done | rfl)))
  (refine' Sq.any (f := _) (by rfl) (by rfl) (by rfl) (fun w' hR hf => ?_) (fun v => ?_) (fun v5 => ?_); (· (obtain ⟨g0, hv0, hv⟩ : ∃ g0, v0 = .slice (some ⟨g0, 0, none⟩) 0 0 ∧ w'.ownsRow (w.heap.size + 3) 72 34 v0 0 [] := hf 2 (by decide) _ rfl; subst hv0; refine wp_app_zero _ _ 56 rfl (w.heap.size + 3) 72 i0 z81 34 48 Try.underlying56 hi0 hz0 hz1 hz2 z81_size (by omega) g0 (by kernel_rfl) hv g A l.length c (l.flatMap ofrc) (by kernel_rfl) (HR.out.below (below_undrew hR)) (by simp only [maxLen]; omega) (by omega) (Nat.le_trans (Nat.le_of_eq HSZ.out) (below_undrew hR).size) ?_; intro v' w1 ho1 hg1; exact ⟨rfl, hg1, ho1⟩)); rotate_left 1; (· (simp only [Act.put, List.setIfInBounds_toArray, List.set_cons_zero, List.set_cons_succ]; first | done | rfl)))
  (refine' Sq.det (E := _) (b := _) (by rfl) (by rfl) (by rfl) (fun w' hR hf => ?_) ?_ ?_; rotate_left 2; (· (have hv : w'.ownsRow (w.heap.size + 3) 72 34 v5 l.length (l.flatMap ofrc) := hf 5 (by decide) _ rfl; exact exec_build58 _ _ s v5 (by kernel_rfl) (by kernel_rfl) (own_slice' hv))); (· (simp only [Act.put, List.setIfInBounds_toArray, List.set_cons_zero, List.set_cons_succ]; first | done | rfl)))
  (refine' Sq.any (f := _) (by rfl) (by rfl) (by rfl) (fun w' hR hf => ?_) (fun v => ?_) (fun v7 => ?_); (· (refine wp_alloc_blk 58 rfl z58 [.int .i64 0, .slice none 0 0] rfl info58z ?_; intro w1 hk1 hk2; exact ⟨rfl, hk2, _, rfl, Nat.le_trans (Nat.le_of_eq HSZ.out) (below_undrew hR).size, hk1⟩)); rotate_left 1; (· (simp only [Act.put, List.setIfInBounds_toArray, List.set_cons_zero, List.set_cons_succ]; first | done | rfl)))
  refine Sq.tail1 (by rfl) fun wq hR hps => ?_
  have h5 : wq.ownsRow (w.heap.size + 3) 72 34 v5 l.length (l.flatMap ofrc) := hps 5 (by decide) _ rfl
  obtain ⟨bn, hbn, hb3, hblk⟩ : ∃ k, v7 = .pointer (some ⟨k, 0, none⟩) ∧ w.heap.size + 3 ≤ k ∧ Blk wq k 58 #[.int .i64 0, .slice none 0 0] := hps 7 (by decide) _ rfl
  subst hbn
  clear hps
  have hR' := below_undrew hR
  refine wpList_store_blk rfl 58 _ _ rfl bn 0 58 [.int .i64 0, .slice none 0 0] [.int .i64 s, v5] hblk (by kernel_rfl) (by kernel_rfl) (size58' _ _) (by simp) (by obtain ⟨A, n, c, rfl⟩ := own_slice' h5; simp [Value.oneCell']) ?_
  intro w1 hn1 hg1 hz1'
  have hne := own_blk_ne h5 hblk (by decide)
  have hrd : Rd w1 g 34 A l.length (l.flatMap ofrc) := by
    rcases HGL.out with h | h
    · exact (HR.out.below hR').grown hg1 (by simp; omega)
    · subst h; exact Rd.nil _ _ _ _
  have hdv : DoVars w w.heap.size s A c l g o s v5 l bn w1 :=
    ⟨(HM.out.below hR').grown hg1 (by simp; omega), (HOP.out.below hR').grown hg1 (by simp; omega), (HRS.out.below hR').grown hg1 (by simp; omega), hn1, h5.kept hg1 (.inr hne), hrd, hb3, HGL.out, (HB.out.trans (hR'.mono HB.out.size)).grown hg1 (Nat.le_trans HB.out.size hR'.size) (fun x hx => by simp at hx; omega)⟩
  have HD := Lib.hid hdv
  obtain ⟨A5, n5, c5, rfl⟩ := own_slice' h5
  clear hdv hrd hne hn1 hg1 hz1' hR' hblk h5 hR HR HB HM HOP HRS HSZ HLT M0 M1 HGL
  have hrm := rem5 o.kind.toNat (by omega) 0 HK.out
  have hn := HN.out
  unfold badN at hn
  simp only [Bool.or_eq_false_iff] at hn
  obtain ⟨hn1, hn2⟩ := hn
  go_wp2_with (first
    | (with_reducible refine at_dst 19 ?_; refine wpList_load_cells rfl 58 _ rfl w.heap.size 0 [.int .i64 s, .slice A l.length c] rfl _ Try.underlying58 rfl (size58' _ _) (fun j u hu => by rw [Nat.zero_add, HD.out.m.cell, List.getElem?_toArray]; exact hu) ?_)
    | (with_reducible refine at_dst 21 ?_; refine wpList_load_cells rfl 37 _ rfl (w.heap.size + 1) 1 (idc o.id) rfl _ Try.underlying37 rfl (sz_id _) (fun j u hu => ?_) ?_; (have hj : j < 32 := by (have := (List.getElem?_eq_some_iff.1 hu).1; rwa [idc_len] at this)); (rw [HD.out.op.cell, List.getElem?_toArray, opc_id _ j hj]; exact hu))
    | (go_at_call 30; with_reducible refine (mfind_any g c A s l o.id _ HD.out.rd (by omega)).mono ?_; rintro e w2 ⟨he, hb2⟩; rw [HIX.out] at he; subst he; have HD2 := Lib.hid (HD.out.below_ hb2); have hc0 := HD2.out.op0; have hc33 := HD2.out.op33; have hm0 := HD2.out.m0; have hm1 := HD2.out.m1; clear hb2)
    )
  refine wp_region_seq (nt := 166) (by kernel_rfl) [0,1,2,3,4,5] [] Rb Rb.refl Rb.trans [(1, fun v w' => ∃ A c, v = .slice A (outs l).length c)] (by kernel_rfl) (by simp) rfl rfl (by simp) ⟨fun _ _ _ _ _ h => h, trivial⟩ ?_
  (refine' Sq.det (E := _) (b := _) (by rfl) (by rfl) (by rfl) (fun w' hR hf => ?_) ?_ ?_; rotate_left 2; (· (refine exec_load_cells 58 _ w.heap.size 0 [.int .i64 s, .slice A l.length c] ?_ _ Try.underlying58 rfl (size58' _ _) (fun j u hu => ?_); (· kernel_rfl); (rw [Nat.zero_add, (HD2.out.m.below (below_undrew hR)).cell, List.getElem?_toArray]; exact hu))); (· (simp only [Act.put, List.setIfInBounds_toArray, List.set_cons_zero, List.set_cons_succ]; first | done | rfl)))
  (refine' Sq.any (f := _) (by rfl) (by rfl) (by rfl) (fun w' hR hf => ?_) (fun v => ?_) (fun v1 => ?_); (· (go_wp2_with (go_at_call 27; refine (mout_any g c A s l w' (HD2.out.rd.below (below_undrew hR)) (by omega) HOK.out).mono ?_; rintro e w1 ⟨v, rfl, ho, hb1⟩); obtain ⟨A', c', rfl⟩ := own_slice ho; exact ⟨hb1, _, _, rfl⟩)); rotate_left 1; (· (simp only [Act.put, List.setIfInBounds_toArray, List.set_cons_zero, List.set_cons_succ]; first | done | rfl)))
  (refine' Sq.det (E := _) (b := _) (by rfl) (by rfl) (by rfl) (fun w' hR hf => ?_) ?_ ?_; rotate_left 2; (· (have hv : ∃ A c, v1 = .slice A (outs l).length c := hf 1 (by decide) _ rfl; obtain ⟨A1, c1, rfl⟩ := hv; go_simp; first | done | with_reducible rfl)); (· (simp only [Act.put, List.setIfInBounds_toArray, List.set_cons_zero, List.set_cons_succ]; first | done | rfl)))
  (refine' Sq.det (E := _) (b := _) (by rfl) (by rfl) (by rfl) (fun w' hR hf => ?_) ?_ ?_; rotate_left 2; (· (go_simp; first | done | with_reducible rfl)); (· (simp only [Act.put, List.setIfInBounds_toArray, List.set_cons_zero, List.set_cons_succ]; first | done | rfl)))
  (refine' Sq.det (E := _) (b := _) (by rfl) (by rfl) (by rfl) (fun w' hR hf => ?_) ?_ ?_; rotate_left 2; (· (have hc := (HD2.out.below_ (below_undrew hR)).m0; go_simp; first | done | with_reducible rfl)); (· (simp only [Act.put, List.setIfInBounds_toArray, List.set_cons_zero, List.set_cons_succ]; first | done | rfl)))
  (refine' Sq.det (E := _) (b := _) (by rfl) (by rfl) (by rfl) (fun w' hR hf => ?_) ?_ ?_; rotate_left 2; (· (go_simp; first | done | with_reducible rfl)); (· (simp only [Act.put, List.setIfInBounds_toArray, List.set_cons_zero, List.set_cons_succ]; first | done | rfl)))
  refine Sq.done fun w3 hR _ => ?_
  have HD3 := Lib.hid (HD2.out.below_ (below_undrew hR))
  have hc33' := HD3.out.op33
  have hn1' := HD3.out.n1
  clear hR hc0 hc33 hm0 hm1
  go_wp2_with (first
    | (with_reducible refine at_dst 62 ?_; refine wpList_load_cells rfl 37 _ rfl (w.heap.size + 1) 1 (idc o.id) rfl _ Try.underlying37 rfl (sz_id _) (fun j u hu => ?_) ?_; (have hj : j < 32 := by (have := (List.getElem?_eq_some_iff.1 hu).1; rwa [idc_len] at this)); (rw [HD3.out.op.cell, List.getElem?_toArray, opc_id _ j hj]; exact hu))
    | (with_reducible refine at_dst 65 ?_; refine wpList_run rfl (.agg (ofrc ⟨o.id, o.n, 0⟩).toArray) (exec_build72 _ _ o.id o.n rfl rfl) ?_)
    | (with_reducible refine at_dst 66 ?_; refine wpList_push 56 (w.heap.size + 3) 72 i0 z81 34 48 Try.underlying56 hi0 hz0 hz1 hz2 z81_size (by omega) (by omega) _ (ofrc ⟨o.id, o.n, 0⟩) rfl rfl (ofrc_len _) (oneCell_ofrc _) (.slice A5 n5 c5) l.length (l.flatMap ofrc) rfl (by simp [Act.put]) HD3.out.own (by simp only [maxLen]; omega) (by omega) (by have := HD3.out.n.lt; have := HD3.out.lt; omega) ?_; intro v' w4 hown4 hgr4 _; obtain ⟨A6, n6, c6, rfl⟩ := own_slice' hown4; have hpu := HD3.out.pushed (l2 := l ++ [⟨o.id, o.n, 0⟩]) hgr4 (by simpa using hown4); obtain ⟨hn4, hd4⟩ := hpu; have hc4 := hn4.cell 1; have hf4 := hn4.frozen 1; simp only [List.getElem?_toArray, List.getElem?_cons_succ, List.getElem?_cons_zero] at hc4; have HD4 := Lib.hid hd4; clear hown4 hgr4 hn4 hd4)
    | (with_reducible refine at_dst 165 ?_; refine wpList_load_cells rfl 58 _ rfl bn 0 [.int .i64 s, .slice A6 n6 c6] rfl _ Try.underlying58 rfl (size58' _ _) (fun j u hu => by rw [Nat.zero_add, HD4.out.n.cell, List.getElem?_toArray]; exact hu) ?_)
    | (with_reducible refine at_store 58 4 ?_; refine wpList_store_blk rfl 58 _ _ rfl (w.heap.size + 1 + 1) 0 58 [.int .i64 0, .slice none 0 0] [.int .i64 s, .slice A6 n6 c6] HD4.out.res rfl rfl (size58' _ _) (by simp) (by simp [Value.oneCell']) ?_; intro w9 hn9 hg9 _; have hr0 := hn9.cell 0; have hr1 := hn9.cell 1; simp only [List.getElem?_toArray, List.take_zero, List.nil_append, List.length_cons, List.length_nil, Nat.zero_add, List.drop_succ_cons, List.drop_zero, List.append_nil, List.cons_append, List.getElem?_cons_succ, List.getElem?_cons_zero] at hr0 hr1; have HG9 := Lib.hid hg9; clear hn9 hg9)
    )
  refine bodyPost_ret (v := .tuple #[.agg #[.int .i64 s, .slice A6 n6 c6], .int .i64 0, .slice none 0 0, .slice none 0 0]) (by simp [results, Try.results33, go_sem, hr0, hr1]) rfl ?_
  refine mpost_n (rs := []) (is := []) HD4.out HG9.out (World.ownsRow_nil _ _ _ _) (World.ownsRow_nil _ _ _ _) ?_
  rw [stepW, if_pos HK.out]
  have : ¬ s ≤ ((outs l).length : Int) := by omega
  simp [offL, offE, HN.out, HH.out, busyB, this]

theorem DoVars.elem {w wx : World} {b bn g c : Nat} {s s' : Int} {A : Option Addr} {l l' : List Ofr} {o : Op'} {v : Value} (h : DoVars w b s A c l g o s' v l' bn wx) {k : Nat} (hk : k < l.length) : ∃ off, A = some ⟨g, off, none⟩ ∧ g < wx.heap.size ∧ wx.cell? ⟨g, off + k * 34 + 33, none⟩ = some (.int .i64 l[k].outcome) := by
  obtain ⟨hg, off, rfl, hc⟩ := h.rd.elem ofrc_len hk rfl
  exact ⟨off, rfl, hg, hc 33 _ (ofrc_33 _)⟩


set_option maxRecDepth 20000 in
set_option maxHeartbeats 2000000 in
theorem do_1c (g c : Nat) (A : Option Addr) (s : Int) (l : List Ofr) (o : Op') (ix : Int) (w : World) (hr : Rd w g 34 A l.length (l.flatMap ofrc)) (hl : l.length ≤ 1000) (hlc : l.length ≤ c) (hok : OkL l) (HIX : Hid (idxI (isId o.id) l 0 = ix)) (HK : Hid (knd o = 1)) (k : Nat) (hk : k < l.length) (hix : ix = k) (HN : Hid (l.find? (isId o.id) = some l[k])) (ho1 : 1 ≤ o.n) (ho5 : o.n ≤ 5) (HPB : Hid (possB l[k].outcome o.n = false)) :
    Calls Try.prog 33 #[.agg #[.int .i64 s, .slice A l.length c], .agg (opc o).toArray] w (MPost w g (stepW s l o)) := by
  have hkl := o.kind.toNat_lt
  obtain ⟨i0, hi0, hz0, hz1, hz2⟩ := info_parts info72
  have hb3 : Below w.heap.size w (((w.alloc (.cells #[.int .i64 s, .slice A l.length c] 58)).alloc (.cells (opc o).toArray 51)).alloc (.cells #[.int .i64 0, .slice none 0 0] 58)) := ((bnew w _).trans' (bnew _ _)).trans' (bnew _ _)
  have HR := Lib.hid (hr.below hb3)
  have hgl : g < w.heap.size ∨ l = [] := by
    rcases Nat.eq_zero_or_pos l.length with h0 | h0
    · exact .inr (List.eq_nil_of_length_eq_zero h0)
    · exact .inl (hr.2 h0).1
  have HGL := Lib.hid hgl
  have HB := Lib.hid hb3
  have hm := ((Blk.new w 58 #[.int .i64 s, .slice A l.length c]).alloc (.cells (opc o).toArray 51)).alloc (.cells #[.int .i64 0, .slice none 0 0] 58)
  have HM := Lib.hid hm
  have hop : Blk (((w.alloc (.cells #[.int .i64 s, .slice A l.length c] 58)).alloc (.cells (opc o).toArray 51)).alloc (.cells #[.int .i64 0, .slice none 0 0] 58)) (w.heap.size + 1) 51 (opc o).toArray := by simpa using ((Blk.new (w.alloc (.cells #[.int .i64 s, .slice A l.length c] 58)) 51 (opc o).toArray).alloc (.cells #[.int .i64 0, .slice none 0 0] 58))
  have HOP := Lib.hid hop
  have hrs : Blk (((w.alloc (.cells #[.int .i64 s, .slice A l.length c] 58)).alloc (.cells (opc o).toArray 51)).alloc (.cells #[.int .i64 0, .slice none 0 0] 58)) (w.heap.size + 2) 58 #[.int .i64 0, .slice none 0 0] := by simpa using (Blk.new ((w.alloc (.cells #[.int .i64 s, .slice A l.length c] 58)).alloc (.cells (opc o).toArray 51)) 58 #[.int .i64 0, .slice none 0 0])
  have HRS := Lib.hid hrs
  have m0 := hm.cell 0
  have m1 := hm.cell 1
  simp only [List.getElem?_toArray, List.getElem?_cons_succ, List.getElem?_cons_zero] at m0 m1
  have hlt := hm.lt
  have hsz3 : w.heap.size + 3 = (((w.alloc (.cells #[.int .i64 s, .slice A l.length c] 58)).alloc (.cells (opc o).toArray 51)).alloc (.cells #[.int .i64 0, .slice none 0 0] 58)).heap.size := by simp
  have HSZ := Lib.hid hsz3
  have HLT := Lib.hid hlt
  have M0 := Lib.hid m0
  have M1 := Lib.hid m1
  have HOK := Lib.hid hok
  clear hr hb3 hm m0 m1 hlt hsz3 hgl hok hop hrs
  go_enter Try.func33, Try.ntmps33
  go_wp2_with fail
  refine wp_region_seq (nt := 166) (by kernel_rfl) [0,1,2,3,4,5,6,7] [8] Rb Rb.refl Rb.trans [(2, fun v w' => ∃ g0, v = .slice (some ⟨g0, 0, none⟩) 0 0 ∧ w'.ownsRow (w.heap.size + 3) 72 34 v 0 []), (5, fun v w' => w'.ownsRow (w.heap.size + 3) 72 34 v l.length (l.flatMap ofrc)), (7, fun v w' => ∃ k, v = .pointer (some ⟨k, 0, none⟩) ∧ w.heap.size + 3 ≤ k ∧ Blk w' k 58 #[.int .i64 0, .slice none 0 0])] (by kernel_rfl) (by simp) rfl (by kernel_rfl) (by simp) ?_ ?_
  · refine ⟨fun v w w' _ h2 ⟨g0, h, h'⟩ => ⟨g0, h, below_kept h' h2⟩, fun v w w' _ h2 h => below_kept h h2, fun v w w' _ h2 h => ?_, trivial⟩
    obtain ⟨k, rfl, hk0, hk⟩ := h
    exact ⟨k, rfl, hk0, hk.below h2⟩
  (refine' Sq.det (E := _) (b := _) (by rfl) (by rfl) (by rfl) (fun w' hR hf => ?_) ?_ ?_; rotate_left 2; (· (go_simp; first | done | with_reducible rfl)); (· (simp only [Act.put, List.setIfInBounds_toArray, List.set_cons_zero, List.set_cons_succ]; first | done | rfl)))
  (refine' Sq.det (E := _) (b := _) (by rfl) (by rfl) (by rfl) (fun w' hR hf => ?_) ?_ ?_; rotate_left 2; (· (have hc : w'.cell? ⟨w.heap.size, 0, none⟩ = some (.int .i64 s) := ((below_undrew hR).cell (p := ⟨w.heap.size, 0, none⟩) HLT.out).trans M0.out; go_simp; first | done | with_reducible rfl)); (· (simp only [Act.put, List.setIfInBounds_toArray, List.set_cons_zero, List.set_cons_succ]; first | done | rfl)))
  (refine' Sq.any (f := _) (by rfl) (by rfl) (by rfl) (fun w' hR hf => ?_) (fun v => ?_) (fun v0 => ?_); (· (refine wp_buildSlice 56 0 _ rfl 72 i0 z81 34 Try.underlying56 hi0 hz0 hz1 [] rfl (by simp [numbered]) (by simp) (by simp) ?_; exact ⟨rfl, bnew _ _, _, rfl, World.ownsRow_made w' _ 0 (Nat.le_trans (Nat.le_of_eq HSZ.out) (below_undrew hR).size) (Nat.zero_le _) rfl⟩)); rotate_left 1; (· (simp only [Act.put, List.setIfInBounds_toArray, List.set_cons_zero, List.set_cons_succ]; first | done | rfl)))
  (refine' Sq.det (E := _) (b := _) (by rfl) (by rfl) (by rfl) (fun w' hR hf => ?_) ?_ ?_; rotate_left 2; (· (go_simp; first | done | with_reducible rfl)); (· (simp only [Act.put, List.setIfInBounds_toArray, List.set_cons_zero, List.set_cons_succ]; first | done | rfl)))
  (refine' Sq.det (E := _) (b := _) (by rfl) (by rfl) (by rfl) (fun w' hR hf => ?_) ?_ ?_; rotate_left 2; (· (have hc : w'.cell? ⟨w.heap.size, 1, none⟩ = some (.slice A l.length c) := ((below_undrew hR).cell (p := ⟨w.heap.size, 1, none⟩) HLT.out).trans M1.out; go_simp; first | done | with_reducible rfl)); (· (simp only [Act.put, List.setIfInBounds_toArray, List.set_cons_zero, List.set_cons_succ]; first | done | rfl)))
  (refine' Sq.any (f := _) (by rfl) (by rfl) (by rfl) (fun w' hR hf => ?_) (fun v => ?_) (fun v5 => ?_); (· (obtain ⟨g0, hv0, hv⟩ : ∃ g0, v0 = .slice (some ⟨g0, 0, none⟩) 0 0 ∧ w'.ownsRow (w.heap.size + 3) 72 34 v0 0 [] := hf 2 (by decide) _ rfl; subst hv0; refine wp_app_zero _ _ 56 rfl (w.heap.size + 3) 72 i0 z81 34 48 Try.underlying56 hi0 hz0 hz1 hz2 z81_size (by omega) g0 (by kernel_rfl) hv g A l.length c (l.flatMap ofrc) (by kernel_rfl) (HR.out.below (below_undrew hR)) (by simp only [maxLen]; omega) (by omega) (Nat.le_trans (Nat.le_of_eq HSZ.out) (below_undrew hR).size) ?_; intro v' w1 ho1 hg1; exact ⟨rfl, hg1, ho1⟩)); rotate_left 1; (· (simp only [Act.put, List.setIfInBounds_toArray, List.set_cons_zero, List.set_cons_succ]; first | done | rfl)))
  (refine' Sq.det (E := _) (b := _) (by rfl) (by rfl) (by rfl) (fun w' hR hf => ?_) ?_ ?_; rotate_left 2; (· (have hv : w'.ownsRow (w.heap.size + 3) 72 34 v5 l.length (l.flatMap ofrc) := hf 5 (by decide) _ rfl; exact exec_build58 _ _ s v5 (by kernel_rfl) (by kernel_rfl) (own_slice' hv))); (· (simp only [Act.put, List.setIfInBounds_toArray, List.set_cons_zero, List.set_cons_succ]; first | done | rfl)))
  (refine' Sq.any (f := _) (by rfl) (by rfl) (by rfl) (fun w' hR hf => ?_) (fun v => ?_) (fun v7 => ?_); (· (refine wp_alloc_blk 58 rfl z58 [.int .i64 0, .slice none 0 0] rfl info58z ?_; intro w1 hk1 hk2; exact ⟨rfl, hk2, _, rfl, Nat.le_trans (Nat.le_of_eq HSZ.out) (below_undrew hR).size, hk1⟩)); rotate_left 1; (· (simp only [Act.put, List.setIfInBounds_toArray, List.set_cons_zero, List.set_cons_succ]; first | done | rfl)))
  refine Sq.tail1 (by rfl) fun wq hR hps => ?_
  have h5 : wq.ownsRow (w.heap.size + 3) 72 34 v5 l.length (l.flatMap ofrc) := hps 5 (by decide) _ rfl
  obtain ⟨bn, hbn, hb3, hblk⟩ : ∃ k, v7 = .pointer (some ⟨k, 0, none⟩) ∧ w.heap.size + 3 ≤ k ∧ Blk wq k 58 #[.int .i64 0, .slice none 0 0] := hps 7 (by decide) _ rfl
  subst hbn
  clear hps
  have hR' := below_undrew hR
  refine wpList_store_blk rfl 58 _ _ rfl bn 0 58 [.int .i64 0, .slice none 0 0] [.int .i64 s, v5] hblk (by kernel_rfl) (by kernel_rfl) (size58' _ _) (by simp) (by obtain ⟨A, n, c, rfl⟩ := own_slice' h5; simp [Value.oneCell']) ?_
  intro w1 hn1 hg1 hz1'
  have hne := own_blk_ne h5 hblk (by decide)
  have hrd : Rd w1 g 34 A l.length (l.flatMap ofrc) := by
    rcases HGL.out with h | h
    · exact (HR.out.below hR').grown hg1 (by simp; omega)
    · subst h; exact Rd.nil _ _ _ _
  have hdv : DoVars w w.heap.size s A c l g o s v5 l bn w1 :=
    ⟨(HM.out.below hR').grown hg1 (by simp; omega), (HOP.out.below hR').grown hg1 (by simp; omega), (HRS.out.below hR').grown hg1 (by simp; omega), hn1, h5.kept hg1 (.inr hne), hrd, hb3, HGL.out, (HB.out.trans (hR'.mono HB.out.size)).grown hg1 (Nat.le_trans HB.out.size hR'.size) (fun x hx => by simp at hx; omega)⟩
  have HD := Lib.hid hdv
  obtain ⟨A5, n5, c5, rfl⟩ := own_slice' h5
  clear hdv hrd hne hn1 hg1 hz1' hR' hblk h5 hR HR HB HM HOP HRS HSZ HLT M0 M1 HGL
  subst hix
  have hrm := rem5 o.kind.toNat (by omega) 1 HK.out
  go_wp2_with (first
    | (with_reducible refine at_dst 19 ?_; refine wpList_load_cells rfl 58 _ rfl w.heap.size 0 [.int .i64 s, .slice A l.length c] rfl _ Try.underlying58 rfl (size58' _ _) (fun j u hu => by rw [Nat.zero_add, HD.out.m.cell, List.getElem?_toArray]; exact hu) ?_)
    | (with_reducible refine at_dst 21 ?_; refine wpList_load_cells rfl 37 _ rfl (w.heap.size + 1) 1 (idc o.id) rfl _ Try.underlying37 rfl (sz_id _) (fun j u hu => ?_) ?_; (have hj : j < 32 := by (have := (List.getElem?_eq_some_iff.1 hu).1; rwa [idc_len] at this)); (rw [HD.out.op.cell, List.getElem?_toArray, opc_id _ j hj]; exact hu))
    | (go_at_call 30; with_reducible refine (mfind_any g c A s l o.id _ HD.out.rd (by omega)).mono ?_; rintro e w2 ⟨he, hb2⟩; rw [HIX.out] at he; subst he; have HD2 := Lib.hid (HD.out.below_ hb2); have hc0 := HD2.out.op0; have hc33 := HD2.out.op33; have hm0 := HD2.out.m0; have hm1 := HD2.out.m1; clear hb2)
    )
  obtain ⟨off, hA, hgk, hek⟩ := HD2.out.elem hk
  refine wp_region_seq (nt := 166) (by kernel_rfl) [0,1,2,3,4,5,6,7,8,9] [] Rb Rb.refl Rb.trans [(8, fun v w' => v = .bool false)] (by kernel_rfl) (by simp) rfl rfl (by simp) ⟨fun _ _ _ _ _ h => h, trivial⟩ ?_
  (refine' Sq.det (E := _) (b := _) (by rfl) (by rfl) (by rfl) (fun w' hR hf => ?_) ?_ ?_; rotate_left 2; (· (go_simp; first | done | with_reducible rfl)); (· (simp only [Act.put, List.setIfInBounds_toArray, List.set_cons_zero, List.set_cons_succ]; first | done | rfl)))
  (refine' Sq.det (E := _) (b := _) (by rfl) (by rfl) (by rfl) (fun w' hR hf => ?_) ?_ ?_; rotate_left 2; (· (have hc := (HD2.out.below_ (below_undrew hR)).m1; go_simp; first | done | with_reducible rfl)); (· (simp only [Act.put, List.setIfInBounds_toArray, List.set_cons_zero, List.set_cons_succ]; first | done | rfl)))
  (refine' Sq.det (E := _) (b := _) (by rfl) (by rfl) (by rfl) (fun w' hR hf => ?_) ?_ ?_; rotate_left 2; (· (go_simp; first | done | with_reducible rfl)); (· (simp only [Act.put, List.setIfInBounds_toArray, List.set_cons_zero, List.set_cons_succ]; first | done | rfl)))
  (refine' Sq.det (E := _) (b := _) (by rfl) (by rfl) (by rfl) (fun w' hR hf => ?_) ?_ ?_; rotate_left 2; (· (go_simp; first | done | with_reducible rfl)); (· (simp only [Act.put, List.setIfInBounds_toArray, List.set_cons_zero, List.set_cons_succ]; first | done | rfl)))
  (refine' Sq.det (E := _) (b := _) (by rfl) (by rfl) (by rfl) (fun w' hR hf => ?_) ?_ ?_; rotate_left 2; (· (go_simp; first | done | with_reducible rfl)); (· (simp only [Act.put, List.setIfInBounds_toArray, List.set_cons_zero, List.set_cons_succ]; first | done | rfl)))
  (refine' Sq.det (E := _) (b := _) (by rfl) (by rfl) (by rfl) (fun w' hR hf => ?_) ?_ ?_; rotate_left 2; (· (have hc : w'.cell? ⟨g, off + k * 34 + 33, none⟩ = some (.int .i64 l[k].outcome) := ((below_undrew hR).cell (p := ⟨g, off + k * 34 + 33, none⟩) hgk).trans hek; go_simp; first | done | with_reducible rfl)); (· (simp only [Act.put, List.setIfInBounds_toArray, List.set_cons_zero, List.set_cons_succ]; first | done | rfl)))
  (refine' Sq.det (E := _) (b := _) (by rfl) (by rfl) (by rfl) (fun w' hR hf => ?_) ?_ ?_; rotate_left 2; (· (go_simp; first | done | with_reducible rfl)); (· (simp only [Act.put, List.setIfInBounds_toArray, List.set_cons_zero, List.set_cons_succ]; first | done | rfl)))
  (refine' Sq.det (E := _) (b := _) (by rfl) (by rfl) (by rfl) (fun w' hR hf => ?_) ?_ ?_; rotate_left 2; (· (have hc := (HD2.out.below_ (below_undrew hR)).op33; go_simp; first | done | with_reducible rfl)); (· (simp only [Act.put, List.setIfInBounds_toArray, List.set_cons_zero, List.set_cons_succ]; first | done | rfl)))
  (refine' Sq.any (f := _) (by rfl) (by rfl) (by rfl) (fun w' hR hf => ?_) (fun v => ?_) (fun v8 => ?_); (· (go_wp2_with (go_at_call 31; refine (possible_any l[k].outcome o.n w').mono ?_; rintro e w1 ⟨rfl, rfl⟩); exact ⟨Below.refl _ _, by rw [HPB.out]⟩)); rotate_left 1; (· (simp only [Act.put, List.setIfInBounds_toArray, List.set_cons_zero, List.set_cons_succ]; first | done | rfl)))
  (refine' Sq.det (E := _) (b := _) (by rfl) (by rfl) (by rfl) (fun w' hR hf => ?_) ?_ ?_; rotate_left 2; (· (have hv : v8 = .bool false := hf 8 (by decide) _ rfl; subst hv; go_simp; first | done | with_reducible rfl)); (· (simp only [Act.put, List.setIfInBounds_toArray, List.set_cons_zero, List.set_cons_succ]; first | done | rfl)))
  refine Sq.done fun w3 hR _ => ?_
  have HD3 := Lib.hid (HD2.out.below_ (below_undrew hR))
  have hc33' := HD3.out.op33
  have hn1' := HD3.out.n1
  clear hR hc0 hc33 hm0 hm1 hA
  go_wp2_with (first
    | (with_reducible refine at_dst 93 ?_; refine wpList_load_cells rfl 58 _ rfl w.heap.size 0 [.int .i64 s, .slice A l.length c] rfl _ Try.underlying58 rfl (size58' _ _) (fun j u hu => by rw [Nat.zero_add, HD3.out.m.cell, List.getElem?_toArray]; exact hu) ?_)
    | (with_reducible refine at_store 58 4 ?_; refine wpList_store_blk rfl 58 _ _ rfl (w.heap.size + 1 + 1) 0 58 [.int .i64 0, .slice none 0 0] [.int .i64 s, .slice A l.length c] HD3.out.res rfl rfl (size58' _ _) (by simp) (by simp [Value.oneCell']) ?_; intro w9 hn9 hg9 _; have hr0 := hn9.cell 0; have hr1 := hn9.cell 1; simp only [List.getElem?_toArray, List.take_zero, List.nil_append, List.length_cons, List.length_nil, Nat.zero_add, List.drop_succ_cons, List.drop_zero, List.append_nil, List.cons_append, List.getElem?_cons_succ, List.getElem?_cons_zero] at hr0 hr1; have HG9 := Lib.hid hg9; clear hn9 hg9)
    )
  refine bodyPost_ret (v := .tuple #[.agg #[.int .i64 s, .slice A l.length c], .int .i64 10, .slice none 0 0, .slice none 0 0]) (by simp [results, Try.results33, go_sem, hr0, hr1]) rfl ?_
  refine mpost_same HD3.out HG9.out hlc ?_
  rw [stepW, if_neg (by rw [HK.out]; decide), if_pos HK.out]
  have : ¬ (o.n < 1 ∨ 5 < o.n) := by omega
  simp [ansL, ansE, HN.out, this, HPB.out]

theorem DoVars.answered {w wx : World} {bn g c : Nat} {s s' : Int} {A : Option Addr} {l l' : List Ofr} {o : Op'} {v : Value} (h : DoVars w w.heap.size s A c l g o s' v l' bn wx) {k : Nat} (hk : k < l'.length) (x : Int) :
    ∃ g5 c5, v = .slice (some ⟨g5, 0, none⟩) l'.length c5 ∧ wx.cell? ⟨g5, k * 34 + 33, none⟩ = some (.int .i64 l'[k].outcome) ∧ wx.frozen? ⟨g5, k * 34 + 33, none⟩ = false ∧
      DoVars w w.heap.size s A c l g o s' v (l'.set k { l'[k] with outcome := x }) bn (wx.setCell ⟨g5, k * 34 + 33, none⟩ (.int .i64 x)) := by
  obtain ⟨g5, c5, rfl, hge5, hlt5⟩ := h.own.form (by omega)
  have hget : ((l'.flatMap ofrc))[k * 34 + 33]? = some (.int .i64 l'[k].outcome) := by rw [getElem?_flatMap ofrc_len l' k hk 33 (by omega)]; exact ofrc_33 _
  have h4c := (h.own.cellAt (k * 34 + 33) (by omega)).trans hget
  have h4f := h.own.frozenAt (k * 34 + 33)
  obtain ⟨hst, hgst⟩ := h.own.stored (k * 34 + 33) (.int .i64 x)
  rw [flatMap_set ofrc_len l' k hk 33 (.int .i64 x) { l'[k] with outcome := x } (by omega) (ofrc_set33 _ _)] at hst
  have hb5 : g5 ≠ bn := by
    have := own_blk_ne h.own h.n (by decide)
    simpa [Value.ownBlock] using this
  have hlt := h.lt
  refine ⟨g5, c5, rfl, h4c, h4f, h.m.far (p := ⟨g5, k * 34 + 33, none⟩) (by simp; omega) _, h.op.far (p := ⟨g5, k * 34 + 33, none⟩) (by simp; omega) _, h.res.far (p := ⟨g5, k * 34 + 33, none⟩) (by simp; omega) _, h.n.far (p := ⟨g5, k * 34 + 33, none⟩) (by simpa using Ne.symm hb5) _, by simpa using hst, ?_, hlt, h.gl, ?_⟩
  · rcases h.gl with h' | h'
    · exact h.rd.grown (grownBy_setCell _ _ _ _) (by simp; omega)
    · subst h'; exact Rd.nil _ _ _ _
  · exact h.below.grown (grownBy_setCell _ _ _ _) h.below.size (fun y hy => by simp at hy; omega)

set_option maxRecDepth 20000 in
set_option maxHeartbeats 2000000 in
theorem do_1d (g c : Nat) (A : Option Addr) (s : Int) (l : List Ofr) (o : Op') (ix : Int) (w : World) (hr : Rd w g 34 A l.length (l.flatMap ofrc)) (hl : l.length ≤ 1000) (hlc : l.length ≤ c) (hok : OkL l) (HIX : Hid (idxI (isId o.id) l 0 = ix)) (HK : Hid (knd o = 1)) (k : Nat) (hk : k < l.length) (hix : ix = k) (HN : Hid (l.find? (isId o.id) = some l[k])) (HI : Hid (l.findIdx (isId o.id) = k)) (ho1 : 1 ≤ o.n) (ho5 : o.n ≤ 5) (HPB : Hid (possB l[k].outcome o.n = true)) :
    Calls Try.prog 33 #[.agg #[.int .i64 s, .slice A l.length c], .agg (opc o).toArray] w (MPost w g (stepW s l o)) := by
  have hkl := o.kind.toNat_lt
  obtain ⟨i0, hi0, hz0, hz1, hz2⟩ := info_parts info72
  have hb3 : Below w.heap.size w (((w.alloc (.cells #[.int .i64 s, .slice A l.length c] 58)).alloc (.cells (opc o).toArray 51)).alloc (.cells #[.int .i64 0, .slice none 0 0] 58)) := ((bnew w _).trans' (bnew _ _)).trans' (bnew _ _)
  have HR := Lib.hid (hr.below hb3)
  have hgl : g < w.heap.size ∨ l = [] := by
    rcases Nat.eq_zero_or_pos l.length with h0 | h0
    · exact .inr (List.eq_nil_of_length_eq_zero h0)
    · exact .inl (hr.2 h0).1
  have HGL := Lib.hid hgl
  have HB := Lib.hid hb3
  have hm := ((Blk.new w 58 #[.int .i64 s, .slice A l.length c]).alloc (.cells (opc o).toArray 51)).alloc (.cells #[.int .i64 0, .slice none 0 0] 58)
  have HM := Lib.hid hm
  have hop : Blk (((w.alloc (.cells #[.int .i64 s, .slice A l.length c] 58)).alloc (.cells (opc o).toArray 51)).alloc (.cells #[.int .i64 0, .slice none 0 0] 58)) (w.heap.size + 1) 51 (opc o).toArray := by simpa using ((Blk.new (w.alloc (.cells #[.int .i64 s, .slice A l.length c] 58)) 51 (opc o).toArray).alloc (.cells #[.int .i64 0, .slice none 0 0] 58))
  have HOP := Lib.hid hop
  have hrs : Blk (((w.alloc (.cells #[.int .i64 s, .slice A l.length c] 58)).alloc (.cells (opc o).toArray 51)).alloc (.cells #[.int .i64 0, .slice none 0 0] 58)) (w.heap.size + 2) 58 #[.int .i64 0, .slice none 0 0] := by simpa using (Blk.new ((w.alloc (.cells #[.int .i64 s, .slice A l.length c] 58)).alloc (.cells (opc o).toArray 51)) 58 #[.int .i64 0, .slice none 0 0])
  have HRS := Lib.hid hrs
  have m0 := hm.cell 0
  have m1 := hm.cell 1
  simp only [List.getElem?_toArray, List.getElem?_cons_succ, List.getElem?_cons_zero] at m0 m1
  have hlt := hm.lt
  have hsz3 : w.heap.size + 3 = (((w.alloc (.cells #[.int .i64 s, .slice A l.length c] 58)).alloc (.cells (opc o).toArray 51)).alloc (.cells #[.int .i64 0, .slice none 0 0] 58)).heap.size := by simp
  have HSZ := Lib.hid hsz3
  have HLT := Lib.hid hlt
  have M0 := Lib.hid m0
  have M1 := Lib.hid m1
  have HOK := Lib.hid hok
  clear hr hb3 hm m0 m1 hlt hsz3 hgl hok hop hrs
  go_enter Try.func33, Try.ntmps33
  go_wp2_with fail
  refine wp_region_seq (nt := 166) (by kernel_rfl) [0,1,2,3,4,5,6,7] [8] Rb Rb.refl Rb.trans [(2, fun v w' => ∃ g0, v = .slice (some ⟨g0, 0, none⟩) 0 0 ∧ w'.ownsRow (w.heap.size + 3) 72 34 v 0 []), (5, fun v w' => w'.ownsRow (w.heap.size + 3) 72 34 v l.length (l.flatMap ofrc)), (7, fun v w' => ∃ k, v = .pointer (some ⟨k, 0, none⟩) ∧ w.heap.size + 3 ≤ k ∧ Blk w' k 58 #[.int .i64 0, .slice none 0 0])] (by kernel_rfl) (by simp) rfl (by kernel_rfl) (by simp) ?_ ?_
  · refine ⟨fun v w w' _ h2 ⟨g0, h, h'⟩ => ⟨g0, h, below_kept h' h2⟩, fun v w w' _ h2 h => below_kept h h2, fun v w w' _ h2 h => ?_, trivial⟩
    obtain ⟨k, rfl, hk0, hk⟩ := h
    exact ⟨k, rfl, hk0, hk.below h2⟩
  (refine' Sq.det (E := _) (b := _) (by rfl) (by rfl) (by rfl) (fun w' hR hf => ?_) ?_ ?_; rotate_left 2; (· (go_simp; first | done | with_reducible rfl)); (· (simp only [Act.put, List.setIfInBounds_toArray, List.set_cons_zero, List.set_cons_succ]; first | done | rfl)))
  (refine' Sq.det (E := _) (b := _) (by rfl) (by rfl) (by rfl) (fun w' hR hf => ?_) ?_ ?_; rotate_left 2; (· (have hc : w'.cell? ⟨w.heap.size, 0, none⟩ = some (.int .i64 s) := ((below_undrew hR).cell (p := ⟨w.heap.size, 0, none⟩) HLT.out).trans M0.out; go_simp; first | done | with_reducible rfl)); (· (simp only [Act.put, List.setIfInBounds_toArray, List.set_cons_zero, List.set_cons_succ]; first | done | rfl)))
  (refine' Sq.any (f := _) (by rfl) (by rfl) (by rfl) (fun w' hR hf => ?_) (fun v => ?_) (fun v0 => ?_); (· (refine wp_buildSlice 56 0 _ rfl 72 i0 z81 34 Try.underlying56 hi0 hz0 hz1 [] rfl (by simp [numbered]) (by simp) (by simp) ?_; exact ⟨rfl, bnew _ _, _, rfl, World.ownsRow_made w' _ 0 (Nat.le_trans (Nat.le_of_eq HSZ.out) (below_undrew hR).size) (Nat.zero_le _) rfl⟩)); rotate_left 1; (· (simp only [Act.put, List.setIfInBounds_toArray, List.set_cons_zero, List.set_cons_succ]; first | done | rfl)))
  (refine' Sq.det (E := _) (b := _) (by rfl) (by rfl) (by rfl) (fun w' hR hf => ?_) ?_ ?_; rotate_left 2; (· (go_simp; first | done | with_reducible rfl)); (· (simp only [Act.put, List.setIfInBounds_toArray, List.set_cons_zero, List.set_cons_succ]; first | done | rfl)))
  (refine' Sq.det (E := _) (b := _) (by rfl) (by rfl) (by rfl) (fun w' hR hf => ?_) ?_ ?_; rotate_left 2; (· (have hc : w'.cell? ⟨w.heap.size, 1, none⟩ = some (.slice A l.length c) := ((below_undrew hR).cell (p := ⟨w.heap.size, 1, none⟩) HLT.out).trans M1.out; go_simp; first | done | with_reducible rfl)); (· (simp only [Act.put, List.setIfInBounds_toArray, List.set_cons_zero, List.set_cons_succ]; first | done | rfl)))
  (refine' Sq.any (f := _) (by rfl) (by rfl) (by rfl) (fun w' hR hf => ?_) (fun v => ?_) (fun v5 => ?_); (· (obtain ⟨g0, hv0, hv⟩ : ∃ g0, v0 = .slice (some ⟨g0, 0, none⟩) 0 0 ∧ w'.ownsRow (w.heap.size + 3) 72 34 v0 0 [] := hf 2 (by decide) _ rfl; subst hv0; refine wp_app_zero _ _ 56 rfl (w.heap.size + 3) 72 i0 z81 34 48 Try.underlying56 hi0 hz0 hz1 hz2 z81_size (by omega) g0 (by kernel_rfl) hv g A l.length c (l.flatMap ofrc) (by kernel_rfl) (HR.out.below (below_undrew hR)) (by simp only [maxLen]; omega) (by omega) (Nat.le_trans (Nat.le_of_eq HSZ.out) (below_undrew hR).size) ?_; intro v' w1 ho1 hg1; exact ⟨rfl, hg1, ho1⟩)); rotate_left 1; (· (simp only [Act.put, List.setIfInBounds_toArray, List.set_cons_zero, List.set_cons_succ]; first | done | rfl)))
  (refine' Sq.det (E := _) (b := _) (by rfl) (by rfl) (by rfl) (fun w' hR hf => ?_) ?_ ?_; rotate_left 2; (· (have hv : w'.ownsRow (w.heap.size + 3) 72 34 v5 l.length (l.flatMap ofrc) := hf 5 (by decide) _ rfl; exact exec_build58 _ _ s v5 (by kernel_rfl) (by kernel_rfl) (own_slice' hv))); (· (simp only [Act.put, List.setIfInBounds_toArray, List.set_cons_zero, List.set_cons_succ]; first | done | rfl)))
  (refine' Sq.any (f := _) (by rfl) (by rfl) (by rfl) (fun w' hR hf => ?_) (fun v => ?_) (fun v7 => ?_); (· (refine wp_alloc_blk 58 rfl z58 [.int .i64 0, .slice none 0 0] rfl info58z ?_; intro w1 hk1 hk2; exact ⟨rfl, hk2, _, rfl, Nat.le_trans (Nat.le_of_eq HSZ.out) (below_undrew hR).size, hk1⟩)); rotate_left 1; (· (simp only [Act.put, List.setIfInBounds_toArray, List.set_cons_zero, List.set_cons_succ]; first | done | rfl)))
  refine Sq.tail1 (by rfl) fun wq hR hps => ?_
  have h5 : wq.ownsRow (w.heap.size + 3) 72 34 v5 l.length (l.flatMap ofrc) := hps 5 (by decide) _ rfl
  obtain ⟨bn, hbn, hb3, hblk⟩ : ∃ k, v7 = .pointer (some ⟨k, 0, none⟩) ∧ w.heap.size + 3 ≤ k ∧ Blk wq k 58 #[.int .i64 0, .slice none 0 0] := hps 7 (by decide) _ rfl
  subst hbn
  clear hps
  have hR' := below_undrew hR
  refine wpList_store_blk rfl 58 _ _ rfl bn 0 58 [.int .i64 0, .slice none 0 0] [.int .i64 s, v5] hblk (by kernel_rfl) (by kernel_rfl) (size58' _ _) (by simp) (by obtain ⟨A, n, c, rfl⟩ := own_slice' h5; simp [Value.oneCell']) ?_
  intro w1 hn1 hg1 hz1'
  have hne := own_blk_ne h5 hblk (by decide)
  have hrd : Rd w1 g 34 A l.length (l.flatMap ofrc) := by
    rcases HGL.out with h | h
    · exact (HR.out.below hR').grown hg1 (by simp; omega)
    · subst h; exact Rd.nil _ _ _ _
  have hdv : DoVars w w.heap.size s A c l g o s v5 l bn w1 :=
    ⟨(HM.out.below hR').grown hg1 (by simp; omega), (HOP.out.below hR').grown hg1 (by simp; omega), (HRS.out.below hR').grown hg1 (by simp; omega), hn1, h5.kept hg1 (.inr hne), hrd, hb3, HGL.out, (HB.out.trans (hR'.mono HB.out.size)).grown hg1 (Nat.le_trans HB.out.size hR'.size) (fun x hx => by simp at hx; omega)⟩
  have HD := Lib.hid hdv
  obtain ⟨A5, n5, c5, rfl⟩ := own_slice' h5
  clear hdv hrd hne hn1 hg1 hz1' hR' hblk h5 hR HR HB HM HOP HRS HSZ HLT M0 M1 HGL
  subst hix
  have hrm := rem5 o.kind.toNat (by omega) 1 HK.out
  go_wp2_with (first
    | (with_reducible refine at_dst 19 ?_; refine wpList_load_cells rfl 58 _ rfl w.heap.size 0 [.int .i64 s, .slice A l.length c] rfl _ Try.underlying58 rfl (size58' _ _) (fun j u hu => by rw [Nat.zero_add, HD.out.m.cell, List.getElem?_toArray]; exact hu) ?_)
    | (with_reducible refine at_dst 21 ?_; refine wpList_load_cells rfl 37 _ rfl (w.heap.size + 1) 1 (idc o.id) rfl _ Try.underlying37 rfl (sz_id _) (fun j u hu => ?_) ?_; (have hj : j < 32 := by (have := (List.getElem?_eq_some_iff.1 hu).1; rwa [idc_len] at this)); (rw [HD.out.op.cell, List.getElem?_toArray, opc_id _ j hj]; exact hu))
    | (go_at_call 30; with_reducible refine (mfind_any g c A s l o.id _ HD.out.rd (by omega)).mono ?_; rintro e w2 ⟨he, hb2⟩; rw [HIX.out] at he; subst he; have HD2 := Lib.hid (HD.out.below_ hb2); have hc0 := HD2.out.op0; have hc33 := HD2.out.op33; have hm0 := HD2.out.m0; have hm1 := HD2.out.m1; clear hb2)
    )
  obtain ⟨off, hA, hgk, hek⟩ := HD2.out.elem hk
  refine wp_region_seq (nt := 166) (by kernel_rfl) [0,1,2,3,4,5,6,7,8,9] [] Rb Rb.refl Rb.trans [(8, fun v w' => v = .bool true)] (by kernel_rfl) (by simp) rfl rfl (by simp) ⟨fun _ _ _ _ _ h => h, trivial⟩ ?_
  (refine' Sq.det (E := _) (b := _) (by rfl) (by rfl) (by rfl) (fun w' hR hf => ?_) ?_ ?_; rotate_left 2; (· (go_simp; first | done | with_reducible rfl)); (· (simp only [Act.put, List.setIfInBounds_toArray, List.set_cons_zero, List.set_cons_succ]; first | done | rfl)))
  (refine' Sq.det (E := _) (b := _) (by rfl) (by rfl) (by rfl) (fun w' hR hf => ?_) ?_ ?_; rotate_left 2; (· (have hc := (HD2.out.below_ (below_undrew hR)).m1; go_simp; first | done | with_reducible rfl)); (· (simp only [Act.put, List.setIfInBounds_toArray, List.set_cons_zero, List.set_cons_succ]; first | done | rfl)))
  (refine' Sq.det (E := _) (b := _) (by rfl) (by rfl) (by rfl) (fun w' hR hf => ?_) ?_ ?_; rotate_left 2; (· (go_simp; first | done | with_reducible rfl)); (· (simp only [Act.put, List.setIfInBounds_toArray, List.set_cons_zero, List.set_cons_succ]; first | done | rfl)))
  (refine' Sq.det (E := _) (b := _) (by rfl) (by rfl) (by rfl) (fun w' hR hf => ?_) ?_ ?_; rotate_left 2; (· (go_simp; first | done | with_reducible rfl)); (· (simp only [Act.put, List.setIfInBounds_toArray, List.set_cons_zero, List.set_cons_succ]; first | done | rfl)))
  (refine' Sq.det (E := _) (b := _) (by rfl) (by rfl) (by rfl) (fun w' hR hf => ?_) ?_ ?_; rotate_left 2; (· (go_simp; first | done | with_reducible rfl)); (· (simp only [Act.put, List.setIfInBounds_toArray, List.set_cons_zero, List.set_cons_succ]; first | done | rfl)))
  (refine' Sq.det (E := _) (b := _) (by rfl) (by rfl) (by rfl) (fun w' hR hf => ?_) ?_ ?_; rotate_left 2; (· (have hc : w'.cell? ⟨g, off + k * 34 + 33, none⟩ = some (.int .i64 l[k].outcome) := ((below_undrew hR).cell (p := ⟨g, off + k * 34 + 33, none⟩) hgk).trans hek; go_simp; first | done | with_reducible rfl)); (· (simp only [Act.put, List.setIfInBounds_toArray, List.set_cons_zero, List.set_cons_succ]; first | done | rfl)))
  (refine' Sq.det (E := _) (b := _) (by rfl) (by rfl) (by rfl) (fun w' hR hf => ?_) ?_ ?_; rotate_left 2; (· (go_simp; first | done | with_reducible rfl)); (· (simp only [Act.put, List.setIfInBounds_toArray, List.set_cons_zero, List.set_cons_succ]; first | done | rfl)))
  (refine' Sq.det (E := _) (b := _) (by rfl) (by rfl) (by rfl) (fun w' hR hf => ?_) ?_ ?_; rotate_left 2; (· (have hc := (HD2.out.below_ (below_undrew hR)).op33; go_simp; first | done | with_reducible rfl)); (· (simp only [Act.put, List.setIfInBounds_toArray, List.set_cons_zero, List.set_cons_succ]; first | done | rfl)))
  (refine' Sq.any (f := _) (by rfl) (by rfl) (by rfl) (fun w' hR hf => ?_) (fun v => ?_) (fun v8 => ?_); (· (go_wp2_with (go_at_call 31; refine (possible_any l[k].outcome o.n w').mono ?_; rintro e w1 ⟨rfl, rfl⟩); exact ⟨Below.refl _ _, by rw [HPB.out]⟩)); rotate_left 1; (· (simp only [Act.put, List.setIfInBounds_toArray, List.set_cons_zero, List.set_cons_succ]; first | done | rfl)))
  (refine' Sq.det (E := _) (b := _) (by rfl) (by rfl) (by rfl) (fun w' hR hf => ?_) ?_ ?_; rotate_left 2; (· (have hv : v8 = .bool true := hf 8 (by decide) _ rfl; subst hv; go_simp; first | done | with_reducible rfl)); (· (simp only [Act.put, List.setIfInBounds_toArray, List.set_cons_zero, List.set_cons_succ]; first | done | rfl)))
  refine Sq.done fun w3 hR _ => ?_
  have HD3 := Lib.hid (HD2.out.below_ (below_undrew hR))
  have hc33' := HD3.out.op33
  have hn1' := HD3.out.n1
  clear hR hc0 hc33 hm0 hm1 hA
  obtain ⟨g5, c6, hv5, h5c, h5f, hd5⟩ := HD3.out.answered hk o.n
  simp only [Value.slice.injEq] at hv5
  obtain ⟨rfl, rfl, rfl⟩ := hv5
  have HD5 := Lib.hid hd5
  clear hd5
  go_wp2_with (first
    | (with_reducible refine at_dst 165 ?_; refine wpList_load_cells rfl 58 _ rfl bn 0 [.int .i64 s, .slice (some ⟨g5, 0, none⟩) l.length c5] rfl _ Try.underlying58 rfl (size58' _ _) (fun j u hu => by rw [Nat.zero_add, HD5.out.n.cell, List.getElem?_toArray]; exact hu) ?_)
    | (with_reducible refine at_store 58 4 ?_; refine wpList_store_blk rfl 58 _ _ rfl (w.heap.size + 1 + 1) 0 58 [.int .i64 0, .slice none 0 0] [.int .i64 s, .slice (some ⟨g5, 0, none⟩) l.length c5] HD5.out.res rfl rfl (size58' _ _) (by simp) (by simp [Value.oneCell']) ?_; intro w9 hn9 hg9 _; have hr0 := hn9.cell 0; have hr1 := hn9.cell 1; simp only [List.getElem?_toArray, List.take_zero, List.nil_append, List.length_cons, List.length_nil, Nat.zero_add, List.drop_succ_cons, List.drop_zero, List.append_nil, List.cons_append, List.getElem?_cons_succ, List.getElem?_cons_zero] at hr0 hr1; have HG9 := Lib.hid hg9; clear hn9 hg9)
    )
  refine bodyPost_ret (v := .tuple #[.agg #[.int .i64 s, .slice (some ⟨g5, 0, none⟩) l.length c5], .int .i64 0, .slice none 0 0, .slice none 0 0]) (by simp [results, Try.results33, go_sem, hr0, hr1]) rfl ?_
  refine mpost_n (rs := []) (is := []) HD5.out HG9.out (World.ownsRow_nil _ _ _ _) (World.ownsRow_nil _ _ _ _) ?_
  rw [stepW, if_neg (by rw [HK.out]; decide), if_pos HK.out]
  have : ¬ (o.n < 1 ∨ 5 < o.n) := by omega
  simp [ansL, ansE, HN.out, this, HPB.out, HI.out]

set_option maxRecDepth 20000 in
set_option maxHeartbeats 2000000 in
theorem do_4b (g c : Nat) (A : Option Addr) (s : Int) (l : List Ofr) (o : Op') (ix : Int) (w : World) (hr : Rd w g 34 A l.length (l.flatMap ofrc)) (hl : l.length ≤ 1000) (hlc : l.length ≤ c) (hok : OkL l) (HIX : Hid (idxI (isId o.id) l 0 = ix)) (HK : Hid (knd o = 4)) (HN : Hid (validB o.n = true)) :
    Calls Try.prog 33 #[.agg #[.int .i64 s, .slice A l.length c], .agg (opc o).toArray] w (MPost w g (stepW s l o)) := by
  have hkl := o.kind.toNat_lt
  obtain ⟨i0, hi0, hz0, hz1, hz2⟩ := info_parts info72
  have hb3 : Below w.heap.size w (((w.alloc (.cells #[.int .i64 s, .slice A l.length c] 58)).alloc (.cells (opc o).toArray 51)).alloc (.cells #[.int .i64 0, .slice none 0 0] 58)) := ((bnew w _).trans' (bnew _ _)).trans' (bnew _ _)
  have HR := Lib.hid (hr.below hb3)
  have hgl : g < w.heap.size ∨ l = [] := by
    rcases Nat.eq_zero_or_pos l.length with h0 | h0
    · exact .inr (List.eq_nil_of_length_eq_zero h0)
    · exact .inl (hr.2 h0).1
  have HGL := Lib.hid hgl
  have HB := Lib.hid hb3
  have hm := ((Blk.new w 58 #[.int .i64 s, .slice A l.length c]).alloc (.cells (opc o).toArray 51)).alloc (.cells #[.int .i64 0, .slice none 0 0] 58)
  have HM := Lib.hid hm
  have hop : Blk (((w.alloc (.cells #[.int .i64 s, .slice A l.length c] 58)).alloc (.cells (opc o).toArray 51)).alloc (.cells #[.int .i64 0, .slice none 0 0] 58)) (w.heap.size + 1) 51 (opc o).toArray := by simpa using ((Blk.new (w.alloc (.cells #[.int .i64 s, .slice A l.length c] 58)) 51 (opc o).toArray).alloc (.cells #[.int .i64 0, .slice none 0 0] 58))
  have HOP := Lib.hid hop
  have hrs : Blk (((w.alloc (.cells #[.int .i64 s, .slice A l.length c] 58)).alloc (.cells (opc o).toArray 51)).alloc (.cells #[.int .i64 0, .slice none 0 0] 58)) (w.heap.size + 2) 58 #[.int .i64 0, .slice none 0 0] := by simpa using (Blk.new ((w.alloc (.cells #[.int .i64 s, .slice A l.length c] 58)).alloc (.cells (opc o).toArray 51)) 58 #[.int .i64 0, .slice none 0 0])
  have HRS := Lib.hid hrs
  have m0 := hm.cell 0
  have m1 := hm.cell 1
  simp only [List.getElem?_toArray, List.getElem?_cons_succ, List.getElem?_cons_zero] at m0 m1
  have hlt := hm.lt
  have hsz3 : w.heap.size + 3 = (((w.alloc (.cells #[.int .i64 s, .slice A l.length c] 58)).alloc (.cells (opc o).toArray 51)).alloc (.cells #[.int .i64 0, .slice none 0 0] 58)).heap.size := by simp
  have HSZ := Lib.hid hsz3
  have HLT := Lib.hid hlt
  have M0 := Lib.hid m0
  have M1 := Lib.hid m1
  have HOK := Lib.hid hok
  clear hr hb3 hm m0 m1 hlt hsz3 hgl hok hop hrs
  go_enter Try.func33, Try.ntmps33
  go_wp2_with fail
  refine wp_region_seq (nt := 166) (by kernel_rfl) [0,1,2,3,4,5,6,7] [8] Rb Rb.refl Rb.trans [(2, fun v w' => ∃ g0, v = .slice (some ⟨g0, 0, none⟩) 0 0 ∧ w'.ownsRow (w.heap.size + 3) 72 34 v 0 []), (5, fun v w' => w'.ownsRow (w.heap.size + 3) 72 34 v l.length (l.flatMap ofrc)), (7, fun v w' => ∃ k, v = .pointer (some ⟨k, 0, none⟩) ∧ w.heap.size + 3 ≤ k ∧ Blk w' k 58 #[.int .i64 0, .slice none 0 0])] (by kernel_rfl) (by simp) rfl (by kernel_rfl) (by simp) ?_ ?_
  · refine ⟨fun v w w' _ h2 ⟨g0, h, h'⟩ => ⟨g0, h, below_kept h' h2⟩, fun v w w' _ h2 h => below_kept h h2, fun v w w' _ h2 h => ?_, trivial⟩
    obtain ⟨k, rfl, hk0, hk⟩ := h
    exact ⟨k, rfl, hk0, hk.below h2⟩
  (refine' Sq.det (E := _) (b := _) (by rfl) (by rfl) (by rfl) (fun w' hR hf => ?_) ?_ ?_; rotate_left 2; (· (go_simp; first | done | with_reducible rfl)); (· (simp only [Act.put, List.setIfInBounds_toArray, List.set_cons_zero, List.set_cons_succ]; first | done | rfl)))
  (refine' Sq.det (E := _) (b := _) (by rfl) (by rfl) (by rfl) (fun w' hR hf => ?_) ?_ ?_; rotate_left 2; (· (have hc : w'.cell? ⟨w.heap.size, 0, none⟩ = some (.int .i64 s) := ((below_undrew hR).cell (p := ⟨w.heap.size, 0, none⟩) HLT.out).trans M0.out; go_simp; first | done | with_reducible rfl)); (· (simp only [Act.put, List.setIfInBounds_toArray, List.set_cons_zero, List.set_cons_succ]; first | done | rfl)))
  (refine' Sq.any (f := _) (by rfl) (by rfl) (by rfl) (fun w' hR hf => ?_) (fun v => ?_) (fun v0 => ?_); (· (refine wp_buildSlice 56 0 _ rfl 72 i0 z81 34 Try.underlying56 hi0 hz0 hz1 [] rfl (by simp [numbered]) (by simp) (by simp) ?_; exact ⟨rfl, bnew _ _, _, rfl, World.ownsRow_made w' _ 0 (Nat.le_trans (Nat.le_of_eq HSZ.out) (below_undrew hR).size) (Nat.zero_le _) rfl⟩)); rotate_left 1; (· (simp only [Act.put, List.setIfInBounds_toArray, List.set_cons_zero, List.set_cons_succ]; first | done | rfl)))
  (refine' Sq.det (E := _) (b := _) (by rfl) (by rfl) (by rfl) (fun w' hR hf => ?_) ?_ ?_; rotate_left 2; (· (go_simp; first | done | with_reducible rfl)); (· (simp only [Act.put, List.setIfInBounds_toArray, List.set_cons_zero, List.set_cons_succ]; first | done | rfl)))
  (refine' Sq.det (E := _) (b := _) (by rfl) (by rfl) (by rfl) (fun w' hR hf => ?_) ?_ ?_; rotate_left 2; (· (have hc : w'.cell? ⟨w.heap.size, 1, none⟩ = some (.slice A l.length c) := ((below_undrew hR).cell (p := ⟨w.heap.size, 1, none⟩) HLT.out).trans M1.out; go_simp; first | done | with_reducible rfl)); (· (simp only [Act.put, List.setIfInBounds_toArray, List.set_cons_zero, List.set_cons_succ]; first | done | rfl)))
  (refine' Sq.any (f := _) (by rfl) (by rfl) (by rfl) (fun w' hR hf => ?_) (fun v => ?_) (fun v5 => ?_); (· (obtain ⟨g0, hv0, hv⟩ : ∃ g0, v0 = .slice (some ⟨g0, 0, none⟩) 0 0 ∧ w'.ownsRow (w.heap.size + 3) 72 34 v0 0 [] := hf 2 (by decide) _ rfl; subst hv0; refine wp_app_zero _ _ 56 rfl (w.heap.size + 3) 72 i0 z81 34 48 Try.underlying56 hi0 hz0 hz1 hz2 z81_size (by omega) g0 (by kernel_rfl) hv g A l.length c (l.flatMap ofrc) (by kernel_rfl) (HR.out.below (below_undrew hR)) (by simp only [maxLen]; omega) (by omega) (Nat.le_trans (Nat.le_of_eq HSZ.out) (below_undrew hR).size) ?_; intro v' w1 ho1 hg1; exact ⟨rfl, hg1, ho1⟩)); rotate_left 1; (· (simp only [Act.put, List.setIfInBounds_toArray, List.set_cons_zero, List.set_cons_succ]; first | done | rfl)))
  (refine' Sq.det (E := _) (b := _) (by rfl) (by rfl) (by rfl) (fun w' hR hf => ?_) ?_ ?_; rotate_left 2; (· (have hv : w'.ownsRow (w.heap.size + 3) 72 34 v5 l.length (l.flatMap ofrc) := hf 5 (by decide) _ rfl; exact exec_build58 _ _ s v5 (by kernel_rfl) (by kernel_rfl) (own_slice' hv))); (· (simp only [Act.put, List.setIfInBounds_toArray, List.set_cons_zero, List.set_cons_succ]; first | done | rfl)))
  (refine' Sq.any (f := _) (by rfl) (by rfl) (by rfl) (fun w' hR hf => ?_) (fun v => ?_) (fun v7 => ?_); (· (refine wp_alloc_blk 58 rfl z58 [.int .i64 0, .slice none 0 0] rfl info58z ?_; intro w1 hk1 hk2; exact ⟨rfl, hk2, _, rfl, Nat.le_trans (Nat.le_of_eq HSZ.out) (below_undrew hR).size, hk1⟩)); rotate_left 1; (· (simp only [Act.put, List.setIfInBounds_toArray, List.set_cons_zero, List.set_cons_succ]; first | done | rfl)))
  refine Sq.tail1 (by rfl) fun wq hR hps => ?_
  have h5 : wq.ownsRow (w.heap.size + 3) 72 34 v5 l.length (l.flatMap ofrc) := hps 5 (by decide) _ rfl
  obtain ⟨bn, hbn, hb3, hblk⟩ : ∃ k, v7 = .pointer (some ⟨k, 0, none⟩) ∧ w.heap.size + 3 ≤ k ∧ Blk wq k 58 #[.int .i64 0, .slice none 0 0] := hps 7 (by decide) _ rfl
  subst hbn
  clear hps
  have hR' := below_undrew hR
  refine wpList_store_blk rfl 58 _ _ rfl bn 0 58 [.int .i64 0, .slice none 0 0] [.int .i64 s, v5] hblk (by kernel_rfl) (by kernel_rfl) (size58' _ _) (by simp) (by obtain ⟨A, n, c, rfl⟩ := own_slice' h5; simp [Value.oneCell']) ?_
  intro w1 hn1 hg1 hz1'
  have hne := own_blk_ne h5 hblk (by decide)
  have hrd : Rd w1 g 34 A l.length (l.flatMap ofrc) := by
    rcases HGL.out with h | h
    · exact (HR.out.below hR').grown hg1 (by simp; omega)
    · subst h; exact Rd.nil _ _ _ _
  have hdv : DoVars w w.heap.size s A c l g o s v5 l bn w1 :=
    ⟨(HM.out.below hR').grown hg1 (by simp; omega), (HOP.out.below hR').grown hg1 (by simp; omega), (HRS.out.below hR').grown hg1 (by simp; omega), hn1, h5.kept hg1 (.inr hne), hrd, hb3, HGL.out, (HB.out.trans (hR'.mono HB.out.size)).grown hg1 (Nat.le_trans HB.out.size hR'.size) (fun x hx => by simp at hx; omega)⟩
  have HD := Lib.hid hdv
  obtain ⟨A5, n5, c5, rfl⟩ := own_slice' h5
  clear hdv hrd hne hn1 hg1 hz1' hR' hblk h5 hR HR HB HM HOP HRS HSZ HLT M0 M1 HGL
  have hrm := rem5 o.kind.toNat (by omega) 4 HK.out
  have hn := HN.out
  unfold validB at hn
  simp only [Bool.and_eq_true, decide_eq_true_eq] at hn
  obtain ⟨h1, h2⟩ := hn
  have hnn0 := HD.out.n.lt
  go_wp2_with (first
    | (with_reducible refine at_dst 19 ?_; refine wpList_load_cells rfl 58 _ rfl w.heap.size 0 [.int .i64 s, .slice A l.length c] rfl _ Try.underlying58 rfl (size58' _ _) (fun j u hu => by rw [Nat.zero_add, HD.out.m.cell, List.getElem?_toArray]; exact hu) ?_)
    | (with_reducible refine at_dst 21 ?_; refine wpList_load_cells rfl 37 _ rfl (w.heap.size + 1) 1 (idc o.id) rfl _ Try.underlying37 rfl (sz_id _) (fun j u hu => ?_) ?_; (have hj : j < 32 := by (have := (List.getElem?_eq_some_iff.1 hu).1; rwa [idc_len] at this)); (rw [HD.out.op.cell, List.getElem?_toArray, opc_id _ j hj]; exact hu))
    | (go_at_call 30; with_reducible refine (mfind_any g c A s l o.id _ HD.out.rd (by omega)).mono ?_; rintro e w2 ⟨he, hb2⟩; rw [HIX.out] at he; subst he; have HD2 := Lib.hid (HD.out.below_ hb2); have hc0 := HD2.out.op0; have hc33 := HD2.out.op33; have hm0 := HD2.out.m0; have hm1 := HD2.out.m1; have hnf := HD2.out.nf 0; have hnc := HD2.out.n0; have HD4 := Lib.hid (HD2.out.sized (s2 := o.n)); clear hb2)
    | (with_reducible refine at_dst 165 ?_; refine wpList_load_cells rfl 58 _ rfl bn 0 [.int .i64 o.n, .slice A5 n5 c5] rfl _ Try.underlying58 rfl (size58' _ _) (fun j u hu => by rw [Nat.zero_add, HD4.out.n.cell, List.getElem?_toArray]; exact hu) ?_)
    | (with_reducible refine at_store 58 4 ?_; refine wpList_store_blk rfl 58 _ _ rfl (w.heap.size + 1 + 1) 0 58 [.int .i64 0, .slice none 0 0] [.int .i64 o.n, .slice A5 n5 c5] HD4.out.res rfl rfl (size58' _ _) (by simp) (by simp [Value.oneCell']) ?_; intro w9 hn9 hg9 _; have hr0 := hn9.cell 0; have hr1 := hn9.cell 1; simp only [List.getElem?_toArray, List.take_zero, List.nil_append, List.length_cons, List.length_nil, Nat.zero_add, List.drop_succ_cons, List.drop_zero, List.append_nil, List.cons_append, List.getElem?_cons_succ, List.getElem?_cons_zero] at hr0 hr1; have HG9 := Lib.hid hg9; clear hn9 hg9)
    )
  refine bodyPost_ret (v := .tuple #[.agg #[.int .i64 o.n, .slice A5 n5 c5], .int .i64 0, .slice none 0 0, .slice none 0 0]) (by simp [results, Try.results33, go_sem, hr0, hr1]) rfl ?_
  refine mpost_n (rs := []) (is := []) HD4.out HG9.out (World.ownsRow_nil _ _ _ _) (World.ownsRow_nil _ _ _ _) ?_
  rw [stepW, if_neg (by rw [HK.out]; decide), if_neg (by rw [HK.out]; decide), if_neg (by rw [HK.out]; decide), if_neg (by rw [HK.out]; decide)]
  simp [errV, HN.out]
end Go.Proofs.Ytbcejdmgdgghfaa
