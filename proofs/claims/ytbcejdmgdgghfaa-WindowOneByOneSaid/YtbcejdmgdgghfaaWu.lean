/- Contract of the model's do, its two ways with loops (settled, drop). Conditions: at most 1,000 offers, outcomes from 0 to 5. -/
import Derived.Test.YtbcejdmgdgghfaaWt
namespace Go.Proofs.Ytbcejdmgdgghfaa
set_option linter.unusedSimpArgs false
set_option linter.unusedVariables false
set_option linter.unnecessarySimpa false
open Go.RowKit

theorem nset_step : ∀ (l : List Ofr) (k : Nat) (hk : k < l.length), k ≤ nset l → (outB l[k] = false → k + 1 ≤ nset l) ∧ (outB l[k] = true → nset l = k)
  | x :: l, 0, hk, h => by
    constructor
    · intro hx
      have hx' : outB x = false := hx
      simp [nset, hx']
    · intro hx
      have hx' : outB x = true := hx
      simp [nset, hx']
  | x :: l, k + 1, hk, h => by
    cases hx : outB x
    · have hn : nset (x :: l) = nset l + 1 := by simp [nset, hx]
      have ih := nset_step l k (by simpa using hk) (by omega)
      simp only [List.getElem_cons_succ]
      constructor
      · intro h'; have := ih.1 h'; omega
      · intro h'; have := ih.2 h'; omega
    · have hn : nset (x :: l) = 0 := by simp [nset, hx]
      omega

structure SetV (w : World) (s : Int) (l : List Ofr) (bn g5 k m cn : Nat) (An : Option Addr) (W : Nat) (v1 : Value) (wx : World) : Prop where
  km : k + m = l.length
  ns : k ≤ nset l
  res : Blk wx (w.heap.size + 2) 58 #[.int .i64 0, .slice none 0 0]
  n : Blk wx bn 58 #[.int .i64 s, .slice An m cn]
  rd : Rd wx g5 34 An m ((l.drop k).flatMap ofrc)
  mc : m ≤ cn
  lt1 : w.heap.size + 3 ≤ bn
  lt2 : bn < W
  g1 : g5 < W
  g2 : g5 ≠ bn
  g3 : g5 ≠ w.heap.size + 2
  g4 : w.heap.size ≤ g5
  own : wx.ownsRow W 43 33 v1 k (((l.take k).map toRes).flatMap resc)
  wle : W ≤ wx.heap.size
  below : Below w.heap.size w wx
theorem SetV.start {w wx : World} {bn g c n5 c5 : Nat} {s : Int} {A A5 : Option Addr} {l : List Ofr} {o : Op'} (h : DoVars w w.heap.size s A c l g o s (.slice A5 n5 c5) l bn wx) :
    n5 = l.length ∧ ∃ g5, SetV w s l bn g5 0 l.length c5 A5 wx.heap.size (.slice none 0 0) wx := by
  obtain ⟨A2, c2, g2, e, hr, hc, hge⟩ := NewSl.own h.own
  simp only [Value.slice.injEq] at e
  obtain ⟨rfl, rfl, rfl⟩ := e
  have hlt := h.lt
  have hbn := h.n.lt
  refine ⟨rfl, ?_⟩
  rcases Nat.eq_zero_or_pos l.length with h0 | h0
  · have : l = [] := List.eq_nil_of_length_eq_zero h0
    subst this
    exact ⟨w.heap.size, by simp, by simp, h.res, h.n, Rd.nil _ _ _ _, hc, hlt, hbn, by omega, by omega, by omega, Nat.le_refl _, by simpa using World.ownsRow_nil _ _ _ _, Nat.le_refl _, h.below⟩
  · have hb5 : g2 ≠ bn := by
      obtain ⟨_, off, e, _⟩ := hr.2 h0
      subst e
      have := own_blk_ne h.own h.n (by decide)
      simpa [Value.ownBlock] using this
    exact ⟨g2, by simp, by simp, h.res, h.n, by simpa using hr, hc, hlt, hbn, (hr.2 h0).1, hb5, by have := hge h0; omega, by have := hge h0; omega, by simpa using World.ownsRow_nil _ _ _ _, Nat.le_refl _, h.below⟩
section
variable {w wx : World} {s : Int} {l : List Ofr} {bn g5 k m cn W : Nat} {An : Option Addr} {v1 : Value}
theorem SetV.n1 (h : SetV w s l bn g5 k m cn An W v1 wx) : wx.cell? ⟨bn, 1, none⟩ = some (.slice An m cn) := by rw [h.n.cell]; rfl
theorem SetV.head (h : SetV w s l bn g5 k m cn An W v1 wx) (hk : k < l.length) : ∃ off, An = some ⟨g5, off, none⟩ ∧ g5 < wx.heap.size ∧ ∀ j u, (ofrc l[k])[j]? = some u → wx.cell? ⟨g5, off + j, none⟩ = some u := by
  have hm : 0 < (l.drop k).length := by simp; omega
  have hl : m = (l.drop k).length := by have := h.km; simp; omega
  obtain ⟨hg, off, e, hc⟩ := h.rd.elem ofrc_len hm hl
  have e0 : (l.drop k)[0] = l[k] := by simp
  rw [e0, Nat.zero_mul, Nat.add_zero] at hc
  exact ⟨off, e, hg, hc⟩
theorem SetV.below_ {wy : World} (h : SetV w s l bn g5 k m cn An W v1 wx) (hb : Below wx.heap.size wx wy) : SetV w s l bn g5 k m cn An W v1 wy :=
  ⟨h.km, h.ns, h.res.below hb, h.n.below hb, h.rd.below hb, h.mc, h.lt1, h.lt2, h.g1, h.g2, h.g3, h.g4, below_kept h.own hb, Nat.le_trans h.wle hb.size, h.below.trans (hb.mono h.below.size)⟩
/-- the result was appended to: what is left of the copy stands as it stood -/
theorem SetV.app {wy : World} {v2 : Value} (h : SetV w s l bn g5 k m cn An W v1 wx) (hk : k < l.length) (hg : wx.grownBy wy v1.ownBlock) (ho : wy.ownsRow W 43 33 v2 (k + 1) (((l.take k).map toRes).flatMap resc ++ resc (toRes l[k]))) (hout : outB l[k] = false) {A' : Option Addr} (hA : 2 ≤ m → A' = An.map (·.add 34)) :
    Blk wy bn 58 #[.int .i64 s, .slice An m cn] ∧ SetV w s l bn g5 (k + 1) (m - 1) (cn - 1) A' W v2 (wy.setCell ⟨bn, 1, none⟩ (.slice A' (m - 1) (cn - 1))) := by
  have hne : ∀ x, x < W → some x ≠ v1.ownBlock := fun x hx e => by have := (h.own.lt x e.symm).1; omega
  have hn := h.n.grown hg (hne _ h.lt2)
  have hn2 := hn.set_ 1 (.slice A' (m - 1) (cn - 1))
  simp only [List.setIfInBounds_toArray, List.set_cons_succ, List.set_cons_zero] at hn2
  have hlt := h.lt1; have hlt2 := h.lt2; have hkm := h.km; have hmc := h.mc
  refine ⟨hn, by omega, (nset_step l k hk h.ns).1 hout, (h.res.grown hg (hne _ (by omega))).far (p := ⟨bn, 1, none⟩) (by simp; omega) _, hn2, ?_, by omega, hlt, hlt2, h.g1, h.g2, h.g3, h.g4, ?_, by have := Nat.le_trans h.wle hg.size; simpa using this, ?_⟩
  · by_cases h2 : 2 ≤ m
    · have hr := ((h.rd.grown hg (hne _ h.g1)).grown (grownBy_setCell wy bn 1 (.slice A' (m - 1) (cn - 1))) (by simpa using h.g2)).cutFrom (m := 1) (c := cn) (by omega) hmc
      rw [if_neg (by omega), Nat.one_mul, ← hA h2] at hr
      have e : (l.drop (k + 1)).flatMap ofrc = ((l.drop k).flatMap ofrc).drop 34 := by
        have := flatMap_drop ofrc_len (l.drop k) 1
        rw [Nat.one_mul, List.drop_drop] at this
        exact this.symm
      rw [e]
      exact hr
    · have e : l.drop (k + 1) = [] := List.drop_eq_nil_of_le (by omega)
      have e2 : m - 1 = 0 := by omega
      rw [e, e2]
      exact Rd.nil _ _ _ _
  · have e : ((l.take (k + 1)).map toRes).flatMap resc = ((l.take k).map toRes).flatMap resc ++ resc (toRes l[k]) := by
      rw [List.take_succ_eq_append_getElem hk, List.map_append, List.flatMap_append]; simp
    rw [e]
    exact ho.kept (grownBy_setCell _ _ _ _) (.inr fun e => by have := (ho.lt bn e).1; omega)
  · have hs := h.below.size
    have hw := h.wle
    exact (h.below.grown hg hs fun x hx => by have := (h.own.lt x hx).1; omega).grown (grownBy_setCell _ _ _ _) (Nat.le_trans hs hg.size) (fun x hx => by simp at hx; omega)
theorem SetV.post {wy : World} {t : Stp} {g0 : Nat} (h : SetV w s l bn g5 k m cn An W v1 wx) (hkn : nset l = k) (hg : wx.grownBy wy (some (w.heap.size + 2))) (hW : w.heap.size ≤ W) (ht : t = ⟨s, l.drop (nset l), 0, settled l, []⟩) :
    MPost w g0 t (.returned (.tuple #[.agg #[.int .i64 s, .slice An m cn], .int .i64 0, v1, .slice none 0 0])) wy := by
  subst ht
  have hkm := h.km
  have hl : (l.drop (nset l)).length = m := by simp; omega
  have hs : (settled l).length = k := by simp [settled]; omega
  have h3 := h.g3
  unfold MPost
  simp only [hl, hs]
  refine ⟨An, cn, g5, v1, _, rfl, ?_, h.mc, ?_, World.ownsRow_nil _ _ _ _, h.below.grown hg h.below.size (fun x hx => by simp at hx; omega), .inr h.g4⟩
  · rw [hkn]; exact h.rd.grown hg (by simpa using h3)
  · rw [settled, hkn]
    exact ownsRow_base (h.own.kept hg (.inr (own_blk_ne h.own h.res (by decide)))) hW
end

set_option maxRecDepth 20000 in
set_option maxHeartbeats 2000000 in
theorem do_2 (g c : Nat) (A : Option Addr) (s : Int) (l : List Ofr) (o : Op') (ix : Int) (w : World) (hr : Rd w g 34 A l.length (l.flatMap ofrc)) (hl : l.length ≤ 1000) (hlc : l.length ≤ c) (hok : OkL l) (HIX : Hid (idxI (isId o.id) l 0 = ix)) (HK : Hid (knd o = 2)) (_hT : True) :
    Calls Try.prog 33 #[.agg #[.int .i64 s, .slice A l.length c], .agg (opc o).toArray] w (MPost w g (stepW s l o)) := by
  have hkl := o.kind.toNat_lt
  obtain ⟨i1, hi1, hy0, hy1, hy2⟩ := info_parts info43
  obtain ⟨i0, hi0, hz0, hz1, hz2⟩ := info_parts info72
  have hb3 : Below w.heap.size w (((w.alloc (.cells #[.int .i64 s, .slice A l.length c] 58)).alloc (.cells (opc o).toArray 51)).alloc (.cells #[.int .i64 0, .slice none 0 0] 58)) := ((bnew w _).trans' (bnew _ _)).trans' (bnew _ _)
  have HR := Lib.hid (hr.below hb3)
  have hgl : g < w.heap.size ∨ l = [] := by
    rcases Nat.eq_zero_or_pos l.length with h0 | h0
    · exact .inr (List.eq_nil_of_length_eq_zero h0)
    · exact .inl (hr.2 h0).1
  have HGL := Lib.hid hgl
  have HB := Lib.hid hb3
  have hm := ((Blk.new w 58 #[.int .i64 s, .slice A l.length c]).alloc (.cells (opc o).toArray 51)).alloc (.cells #[.int .i64 0, .slice none 0 0] 58)
  have HM := Lib.hid hm
  have hop : Blk (((w.alloc (.cells #[.int .i64 s, .slice A l.length c] 58)).alloc (.cells (opc o).toArray 51)).alloc (.cells #[.int .i64 0, .slice none 0 0] 58)) (w.heap.size + 1) 51 (opc o).toArray := by simpa using ((Blk.new (w.alloc (.cells #[.int .i64 s, .slice A l.length c] 58)) 51 (opc o).toArray).alloc (.cells #[.int .i64 0, .slice none 0 0] 58))
  have HOP := Lib.hid hop
  have hrs : Blk (((w.alloc (.cells #[.int .i64 s, .slice A l.length c] 58)).alloc (.cells (opc o).toArray 51)).alloc (.cells #[.int .i64 0, .slice none 0 0] 58)) (w.heap.size + 2) 58 #[.int .i64 0, .slice none 0 0] := by simpa using (Blk.new ((w.alloc (.cells #[.int .i64 s, .slice A l.length c] 58)).alloc (.cells (opc o).toArray 51)) 58 #[.int .i64 0, .slice none 0 0])
  have HRS := Lib.hid hrs
  have m0 := hm.cell 0
  have m1 := hm.cell 1
  simp only [List.getElem?_toArray, List.getElem?_cons_succ, List.getElem?_cons_zero] at m0 m1
  have hlt := hm.lt
  have hsz3 : w.heap.size + 3 = (((w.alloc (.cells #[.int .i64 s, .slice A l.length c] 58)).alloc (.cells (opc o).toArray 51)).alloc (.cells #[.int .i64 0, .slice none 0 0] 58)).heap.size := by simp
  have HSZ := Lib.hid hsz3
  have HLT := Lib.hid hlt
  have M0 := Lib.hid m0
  have M1 := Lib.hid m1
  have HOK := Lib.hid hok
  clear hr hb3 hm m0 m1 hlt hsz3 hgl hok hop hrs
  go_enter Try.func33, Try.ntmps33
  go_wp2_with fail
  refine wp_region_seq (nt := 166) (by kernel_rfl) [0,1,2,3,4,5,6,7] [8] Rb Rb.refl Rb.trans [(2, fun v w' => ∃ g0, v = .slice (some ⟨g0, 0, none⟩) 0 0 ∧ w'.ownsRow (w.heap.size + 3) 72 34 v 0 []), (5, fun v w' => w'.ownsRow (w.heap.size + 3) 72 34 v l.length (l.flatMap ofrc)), (7, fun v w' => ∃ k, v = .pointer (some ⟨k, 0, none⟩) ∧ w.heap.size + 3 ≤ k ∧ Blk w' k 58 #[.int .i64 0, .slice none 0 0])] (by kernel_rfl) (by simp) rfl (by kernel_rfl) (by simp) ?_ ?_
  · refine ⟨fun v w w' _ h2 ⟨g0, h, h'⟩ => ⟨g0, h, below_kept h' h2⟩, fun v w w' _ h2 h => below_kept h h2, fun v w w' _ h2 h => ?_, trivial⟩
    obtain ⟨k, rfl, hk0, hk⟩ := h
    exact ⟨k, rfl, hk0, hk.below h2⟩
  (refine' Sq.det (E := _) (b := _) (by rfl) (by rfl) (by rfl) (fun w' hR hf => ?_) ?_ ?_; rotate_left 2; (· (go_simp; first | done | with_reducible rfl)); (· (simp only [Act.put, List.setIfInBounds_toArray, List.set_cons_zero, List.set_cons_succ]; first | done | rfl)))
  (refine' Sq.det (E := _) (b := _) (by rfl) (by rfl) (by rfl) (fun w' hR hf => ?_) ?_ ?_; rotate_left 2; (· (have hc : w'.cell? ⟨w.heap.size, 0, none⟩ = some (.int .i64 s) := ((below_undrew hR).cell (p := ⟨w.heap.size, 0, none⟩) HLT.out).trans M0.out; go_simp; first | done | with_reducible rfl)); (· (simp only [Act.put, List.setIfInBounds_toArray, List.set_cons_zero, List.set_cons_succ]; first | done | rfl)))
  (refine' Sq.any (f := _) (by rfl) (by rfl) (by rfl) (fun w' hR hf => ?_) (fun v => ?_) (fun v0 => ?_); (· (refine wp_buildSlice 56 0 _ rfl 72 i0 z81 34 Try.underlying56 hi0 hz0 hz1 [] rfl (by simp [numbered]) (by simp) (by simp) ?_; exact ⟨rfl, bnew _ _, _, rfl, World.ownsRow_made w' _ 0 (Nat.le_trans (Nat.le_of_eq HSZ.out) (below_undrew hR).size) (Nat.zero_le _) rfl⟩)); rotate_left 1; (· (simp only [Act.put, List.setIfInBounds_toArray, List.set_cons_zero, List.set_cons_succ]; first | done | rfl)))
  (refine' Sq.det (E := _) (b := _) (by rfl) (by rfl) (by rfl) (fun w' hR hf => ?_) ?_ ?_; rotate_left 2; (· (go_simp; first | done | with_reducible rfl)); (· (simp only [Act.put, List.setIfInBounds_toArray, List.set_cons_zero, List.set_cons_succ]; first | done | rfl)))
  (refine' Sq.det (E := _) (b := _) (by rfl) (by rfl) (by rfl) (fun w' hR hf => ?_) ?_ ?_; rotate_left 2; (· (have hc : w'.cell? ⟨w.heap.size, 1, none⟩ = some (.slice A l.length c) := ((below_undrew hR).cell (p := ⟨w.heap.size, 1, none⟩) HLT.out).trans M1.out; go_simp; first | done | with_reducible rfl)); (· (simp only [Act.put, List.setIfInBounds_toArray, List.set_cons_zero, List.set_cons_succ]; first | done | rfl)))
  (refine' Sq.any (f := _) (by rfl) (by rfl) (by rfl) (fun w' hR hf => ?_) (fun v => ?_) (fun v5 => ?_); (· (obtain ⟨g0, hv0, hv⟩ : ∃ g0, v0 = .slice (some ⟨g0, 0, none⟩) 0 0 ∧ w'.ownsRow (w.heap.size + 3) 72 34 v0 0 [] := hf 2 (by decide) _ rfl; subst hv0; refine wp_app_zero _ _ 56 rfl (w.heap.size + 3) 72 i0 z81 34 48 Try.underlying56 hi0 hz0 hz1 hz2 z81_size (by omega) g0 (by kernel_rfl) hv g A l.length c (l.flatMap ofrc) (by kernel_rfl) (HR.out.below (below_undrew hR)) (by simp only [maxLen]; omega) (by omega) (Nat.le_trans (Nat.le_of_eq HSZ.out) (below_undrew hR).size) ?_; intro v' w1 ho1 hg1; exact ⟨rfl, hg1, ho1⟩)); rotate_left 1; (· (simp only [Act.put, List.setIfInBounds_toArray, List.set_cons_zero, List.set_cons_succ]; first | done | rfl)))
  (refine' Sq.det (E := _) (b := _) (by rfl) (by rfl) (by rfl) (fun w' hR hf => ?_) ?_ ?_; rotate_left 2; (· (have hv : w'.ownsRow (w.heap.size + 3) 72 34 v5 l.length (l.flatMap ofrc) := hf 5 (by decide) _ rfl; exact exec_build58 _ _ s v5 (by kernel_rfl) (by kernel_rfl) (own_slice' hv))); (· (simp only [Act.put, List.setIfInBounds_toArray, List.set_cons_zero, List.set_cons_succ]; first | done | rfl)))
  (refine' Sq.any (f := _) (by rfl) (by rfl) (by rfl) (fun w' hR hf => ?_) (fun v => ?_) (fun v7 => ?_); (· (refine wp_alloc_blk 58 rfl z58 [.int .i64 0, .slice none 0 0] rfl info58z ?_; intro w1 hk1 hk2; exact ⟨rfl, hk2, _, rfl, Nat.le_trans (Nat.le_of_eq HSZ.out) (below_undrew hR).size, hk1⟩)); rotate_left 1; (· (simp only [Act.put, List.setIfInBounds_toArray, List.set_cons_zero, List.set_cons_succ]; first | done | rfl)))
  refine Sq.tail1 (by rfl) fun wq hR hps => ?_
  have h5 : wq.ownsRow (w.heap.size + 3) 72 34 v5 l.length (l.flatMap ofrc) := hps 5 (by decide) _ rfl
  obtain ⟨bn, hbn, hb3, hblk⟩ : ∃ k, v7 = .pointer (some ⟨k, 0, none⟩) ∧ w.heap.size + 3 ≤ k ∧ Blk wq k 58 #[.int .i64 0, .slice none 0 0] := hps 7 (by decide) _ rfl
  subst hbn
  clear hps
  have hR' := below_undrew hR
  refine wpList_store_blk rfl 58 _ _ rfl bn 0 58 [.int .i64 0, .slice none 0 0] [.int .i64 s, v5] hblk (by kernel_rfl) (by kernel_rfl) (size58' _ _) (by simp) (by obtain ⟨A, n, c, rfl⟩ := own_slice' h5; simp [Value.oneCell']) ?_
  intro w1 hn1 hg1 hz1'
  have hne := own_blk_ne h5 hblk (by decide)
  have hrd : Rd w1 g 34 A l.length (l.flatMap ofrc) := by
    rcases HGL.out with h | h
    · exact (HR.out.below hR').grown hg1 (by simp; omega)
    · subst h; exact Rd.nil _ _ _ _
  have hdv : DoVars w w.heap.size s A c l g o s v5 l bn w1 :=
    ⟨(HM.out.below hR').grown hg1 (by simp; omega), (HOP.out.below hR').grown hg1 (by simp; omega), (HRS.out.below hR').grown hg1 (by simp; omega), hn1, h5.kept hg1 (.inr hne), hrd, hb3, HGL.out, (HB.out.trans (hR'.mono HB.out.size)).grown hg1 (Nat.le_trans HB.out.size hR'.size) (fun x hx => by simp at hx; omega)⟩
  have HD := Lib.hid hdv
  obtain ⟨A5, n5, c5, rfl⟩ := own_slice' h5
  clear hdv hrd hne hn1 hg1 hz1' hR' hblk h5 hR HR HB HM HOP HRS HSZ HLT M0 M1 HGL
  have hrm := rem5 o.kind.toNat (by omega) 2 HK.out
  go_wp2_with (first
    | (with_reducible refine at_dst 19 ?_; refine wpList_load_cells rfl 58 _ rfl w.heap.size 0 [.int .i64 s, .slice A l.length c] rfl _ Try.underlying58 rfl (size58' _ _) (fun j u hu => by rw [Nat.zero_add, HD.out.m.cell, List.getElem?_toArray]; exact hu) ?_)
    | (with_reducible refine at_dst 21 ?_; refine wpList_load_cells rfl 37 _ rfl (w.heap.size + 1) 1 (idc o.id) rfl _ Try.underlying37 rfl (sz_id _) (fun j u hu => ?_) ?_; (have hj : j < 32 := by (have := (List.getElem?_eq_some_iff.1 hu).1; rwa [idc_len] at this)); (rw [HD.out.op.cell, List.getElem?_toArray, opc_id _ j hj]; exact hu))
    | (go_at_call 30; with_reducible refine (mfind_any g c A s l o.id _ HD.out.rd (by omega)).mono ?_; rintro e w2 ⟨he, hb2⟩; rw [HIX.out] at he; subst he; have HD2 := Lib.hid (HD.out.below_ hb2); have hc0 := HD2.out.op0; have hc33 := HD2.out.op33; have hm0 := HD2.out.m0; have hm1 := HD2.out.m1; clear hb2)
    )
  obtain ⟨hn5, g5, hsv⟩ := SetV.start HD2.out
  subst hn5
  have HS := Lib.hid hsv
  clear hsv hc0 hc33 hm0 hm1
  go_loopw [10] (fun v wr => ∃ k m cn An, SetV w s l bn g5 k m cn An w2.heap.size v wr) (fun v _ => l.length - (match v with | .slice _ n _ => n | _ => 0))
  case atStart => exact ⟨0, l.length, c5, A5, HS.out⟩
  case round =>
    obtain ⟨k, m, cn, An, hs⟩ := hrel
    have hkm := hs.km
    have hn1 := hs.n1
    have HV := Lib.hid hs
    obtain ⟨A10, c10, hv10⟩ := own_slice hs.own
    have HV10 := Lib.hid hv10
    clear hs hv10
    by_cases hk : k < l.length
    · obtain ⟨off, hAn, hg5, hc⟩ := HV.out.head hk
      subst hAn
      have hcc := hc 33 _ (ofrc_33 _)
      have HC := Lib.hid hc
      have hm0 : 0 < m := by omega
      have hok := HOK.out l[k] (List.getElem_mem hk)
      clear hc
      cases hout : outB l[k]
      · have h2 : 2 ≤ l[k].outcome := by
          simp only [outB, Bool.or_eq_false_iff, beq_eq_false_iff_ne] at hout
          omega
        have HO := Lib.hid hout
        have HKM := Lib.hid hkm
        have HN1 := Lib.hid hn1
        have HCC := Lib.hid hcc
        clear hout hkm
        go_wp2_with fail
        clear hn1 hcc
        refine wp_region_seq (nt := 166) (by kernel_rfl) [0,1,2,3,4,5,6,7,8,9,10,11,12] [13,14] Rb Rb.refl Rb.trans [(12, fun v w' => ∃ q, v = .slice (some ⟨q, 0, none⟩) 1 1 ∧ Blk w' q 43 (resc (toRes l[k])).toArray)] (by kernel_rfl) (by simp) rfl (by kernel_rfl) (by simp) ?_ ?_
        · refine ⟨fun v w w' _ h2 h => ?_, trivial⟩
          obtain ⟨q, rfl, hq⟩ := h
          exact ⟨q, rfl, hq.below h2⟩
        (refine' Sq.det (E := _) (b := _) (by rfl) (by rfl) (by rfl) (fun w' hR hf => ?_) ?_ ?_; rotate_left 2; (· (go_simp; first | done | with_reducible rfl)); (· (simp only [Act.put, List.setIfInBounds_toArray, List.set_cons_zero, List.set_cons_succ]; first | done | rfl)))
        (refine' Sq.det (E := _) (b := _) (by rfl) (by rfl) (by rfl) (fun w' hR hf => ?_) ?_ ?_; rotate_left 2; (· (go_simp; first | done | with_reducible rfl)); (· (simp only [Act.put, List.setIfInBounds_toArray, List.set_cons_zero, List.set_cons_succ]; first | done | rfl)))
        (refine' Sq.det (E := _) (b := _) (by rfl) (by rfl) (by rfl) (fun w' hR hf => ?_) ?_ ?_; rotate_left 2; (· (have hc := (HV.out.below_ (below_undrew hR)).n1; go_simp; first | done | with_reducible rfl)); (· (simp only [Act.put, List.setIfInBounds_toArray, List.set_cons_zero, List.set_cons_succ]; first | done | rfl)))
        (refine' Sq.det (E := _) (b := _) (by rfl) (by rfl) (by rfl) (fun w' hR hf => ?_) ?_ ?_; rotate_left 2; (· (go_simp; first | done | with_reducible rfl)); (· (simp only [Act.put, List.setIfInBounds_toArray, List.set_cons_zero, List.set_cons_succ]; first | done | rfl)))
        (refine' Sq.det (E := _) (b := _) (by rfl) (by rfl) (by rfl) (fun w' hR hf => ?_) ?_ ?_; rotate_left 2; (· (go_simp; first | done | with_reducible rfl)); (· (simp only [Act.put, List.setIfInBounds_toArray, List.set_cons_zero, List.set_cons_succ]; first | done | rfl)))
        (refine' Sq.det (E := _) (b := _) (by rfl) (by rfl) (by rfl) (fun w' hR hf => ?_) ?_ ?_; rotate_left 2; (· (refine exec_load_cells 37 _ g5 off (idc l[k].id) ?_ _ Try.underlying37 rfl (sz_id _) (fun j u hu => ?_); (· kernel_rfl); (have hj : j < 32 := by (have := (List.getElem?_eq_some_iff.1 hu).1; rwa [idc_len] at this)); exact ((below_undrew hR).cell (p := ⟨g5, _, none⟩) hg5).trans (HC.out j u (by rw [ofrc_id _ j hj]; exact hu)))); (· (simp only [Act.put, List.setIfInBounds_toArray, List.set_cons_zero, List.set_cons_succ]; first | done | rfl)))
        (refine' Sq.det (E := _) (b := _) (by rfl) (by rfl) (by rfl) (fun w' hR hf => ?_) ?_ ?_; rotate_left 2; (· (go_simp; first | done | with_reducible rfl)); (· (simp only [Act.put, List.setIfInBounds_toArray, List.set_cons_zero, List.set_cons_succ]; first | done | rfl)))
        (refine' Sq.det (E := _) (b := _) (by rfl) (by rfl) (by rfl) (fun w' hR hf => ?_) ?_ ?_; rotate_left 2; (· (have hc := (HV.out.below_ (below_undrew hR)).n1; go_simp; first | done | with_reducible rfl)); (· (simp only [Act.put, List.setIfInBounds_toArray, List.set_cons_zero, List.set_cons_succ]; first | done | rfl)))
        (refine' Sq.det (E := _) (b := _) (by rfl) (by rfl) (by rfl) (fun w' hR hf => ?_) ?_ ?_; rotate_left 2; (· (go_simp; first | done | with_reducible rfl)); (· (simp only [Act.put, List.setIfInBounds_toArray, List.set_cons_zero, List.set_cons_succ]; first | done | rfl)))
        (refine' Sq.det (E := _) (b := _) (by rfl) (by rfl) (by rfl) (fun w' hR hf => ?_) ?_ ?_; rotate_left 2; (· (go_simp; first | done | with_reducible rfl)); (· (simp only [Act.put, List.setIfInBounds_toArray, List.set_cons_zero, List.set_cons_succ]; first | done | rfl)))
        (refine' Sq.det (E := _) (b := _) (by rfl) (by rfl) (by rfl) (fun w' hR hf => ?_) ?_ ?_; rotate_left 2; (· (have hc := ((below_undrew hR).cell (p := ⟨g5, off + 33, none⟩) hg5).trans HCC.out; go_simp; first | done | with_reducible rfl)); (· (simp only [Act.put, List.setIfInBounds_toArray, List.set_cons_zero, List.set_cons_succ]; first | done | rfl)))
        (refine' Sq.det (E := _) (b := _) (by rfl) (by rfl) (by rfl) (fun w' hR hf => ?_) ?_ ?_; rotate_left 2; (· (exact exec_build43 _ _ (toRes l[k]) (by kernel_rfl) (by kernel_rfl))); (· (simp only [Act.put, List.setIfInBounds_toArray, List.set_cons_zero, List.set_cons_succ]; first | done | rfl)))
        (refine' Sq.any (f := _) (by rfl) (by rfl) (by rfl) (fun w' hR hf => ?_) (fun v => ?_) (fun v12 => ?_); (· (refine wp_buildSlice1 30 _ rfl 43 i1 z43 33 Try.underlying30 hi1 hy0 hy1 (.agg (resc (toRes l[k])).toArray) (resc (toRes l[k])) (by kernel_rfl) rfl (resc_len _) (by omega) ?_; exact ⟨rfl, bnew _ _, _, rfl, Blk.new _ _ _⟩)); rotate_left 1; (· (simp only [Act.put, List.setIfInBounds_toArray, List.set_cons_zero, List.set_cons_succ]; first | done | rfl)))
        refine Sq.tail2 (by rfl) (by rfl) (fun w3 hR hp => ?_)
        obtain ⟨q, hq, hbq⟩ : ∃ q, v12 = .slice (some ⟨q, 0, none⟩) 1 1 ∧ Blk w3 q 43 (resc (toRes l[k])).toArray := hp 12 (by decide) _ rfl
        subst hq
        clear hp
        have hv3 := HV.out.below_ (below_undrew hR)
        have hkm := HKM.out
        refine wpList_append_own _ rfl (.tmp 115) (.tmp 127) 30 rfl w2.heap.size 43 i1 z43 33 40 Try.underlying30 hi1 hy0 hy1 hy2 z43_size (by omega) u10 k (((l.take k).map toRes).flatMap resc) (by kernel_rfl) hv3.own ⟨q, 0, none⟩ 1 1 (resc (toRes l[k])) (by kernel_rfl) (by rw [resc_len])
          (fun j u hu => by rw [Addr.add_lit, Nat.zero_add, hbq.cell, List.getElem?_toArray]; exact hu) (oneCell_resc _) (by simp only [maxLen]; omega) (by omega) hv3.wle ?_
        intro v' w4 ho4 hg4 _
        have happ := fun (A' : Option Addr) (hA : 2 ≤ m → A' = (some (⟨g5, off, none⟩ : Addr)).map (·.add 34)) => hv3.app hk hg4 ho4 HO.out hA
        have HAPP := Lib.hid happ
        have hb4 : Blk w4 bn 58 #[.int .i64 s, .slice (some ⟨g5, off, none⟩) m cn] := (happ ((some (⟨g5, off, none⟩ : Addr)).map (·.add 34)) fun _ => rfl).1
        have hn4 := hb4.cell 1
        simp only [List.getElem?_toArray, List.getElem?_cons_succ, List.getElem?_cons_zero] at hn4
        have hf4 := hb4.frozen 1
        have hmc := hv3.mc
        obtain ⟨A4, n4, c4, rfl⟩ := own_slice' ho4
        have hk4 : n4 = k + 1 := by
          obtain ⟨A5', c5', e⟩ := own_slice ho4
          simp only [Value.slice.injEq] at e
          exact e.2.1
        have HK4 := Lib.hid hk4
        clear happ hb4 hv3 ho4 hg4 hbq hR hkm hk4
        by_cases hcn : cn = 1
        · subst hcn
          obtain rfl : m = 1 := by omega
          go_wp2_with fail
          go_roundw
          case rel => exact ⟨k + 1, 0, 0, some ⟨g5, off, none⟩, (HAPP.out _ (by omega)).2⟩
          case measure => rw [HV10.out, HK4.out]; dsimp only; omega
        · go_wp2_with fail
          go_roundw
          case rel => exact ⟨k + 1, m - 1, cn - 1, some ⟨g5, off + 34, none⟩, (HAPP.out _ fun _ => rfl).2⟩
          case measure => rw [HV10.out, HK4.out]; dsimp only; omega
      · have h2 : l[k].outcome < 2 := by
          simp only [outB, Bool.or_eq_true, beq_iff_eq] at hout
          omega
        have hns : k ≤ nset l := HV.out.ns
        have hkn := (nset_step l k hk hns).2 hout
        have HKN := Lib.hid hkn
        go_wp2_with (first
          | (with_reducible refine at_dst 133 ?_; refine wpList_load_cells rfl 58 _ rfl bn 0 [.int .i64 s, .slice (some ⟨g5, off, none⟩) m cn] rfl _ Try.underlying58 rfl (size58' _ _) (fun j u hu => by rw [Nat.zero_add, HV.out.n.cell, List.getElem?_toArray]; exact hu) ?_)
          | (with_reducible refine at_store 58 4 ?_; refine wpList_store_blk rfl 58 _ _ rfl (w.heap.size + 1 + 1) 0 58 [.int .i64 0, .slice none 0 0] [.int .i64 s, .slice (some ⟨g5, off, none⟩) m cn] HV.out.res rfl rfl (size58' _ _) (by simp) (by simp [Value.oneCell']) ?_; intro w9 hn9 hg9 _; have hr0 := hn9.cell 0; have hr1 := hn9.cell 1; simp only [List.getElem?_toArray, List.take_zero, List.nil_append, List.length_cons, List.length_nil, Nat.zero_add, List.drop_succ_cons, List.drop_zero, List.append_nil, List.cons_append, List.getElem?_cons_succ, List.getElem?_cons_zero] at hr0 hr1; have HG9 := Lib.hid hg9; clear hn9 hg9))
        refine bodyPost_ret (v := .tuple #[.agg #[.int .i64 s, .slice (some ⟨g5, off, none⟩) m cn], .int .i64 0, u10, .slice none 0 0]) (by simp [results, Try.results33, go_sem, hr0, hr1]) rfl ?_
        refine HV.out.post HKN.out HG9.out HD2.out.below.size ?_
        rw [stepW, if_neg (by rw [HK.out]; decide), if_neg (by rw [HK.out]; decide), if_pos HK.out]
    · have hkn : nset l = k := by have := nset_le l; have := HV.out.ns; omega
      obtain rfl : m = 0 := by omega
      have HKN := Lib.hid hkn
      go_wp2_with (first
        | (with_reducible refine at_dst 133 ?_; refine wpList_load_cells rfl 58 _ rfl bn 0 [.int .i64 s, .slice An 0 cn] rfl _ Try.underlying58 rfl (size58' _ _) (fun j u hu => by rw [Nat.zero_add, HV.out.n.cell, List.getElem?_toArray]; exact hu) ?_)
        | (with_reducible refine at_store 58 4 ?_; refine wpList_store_blk rfl 58 _ _ rfl (w.heap.size + 1 + 1) 0 58 [.int .i64 0, .slice none 0 0] [.int .i64 s, .slice An 0 cn] HV.out.res rfl rfl (size58' _ _) (by simp) (by simp [Value.oneCell']) ?_; intro w9 hn9 hg9 _; have hr0 := hn9.cell 0; have hr1 := hn9.cell 1; simp only [List.getElem?_toArray, List.take_zero, List.nil_append, List.length_cons, List.length_nil, Nat.zero_add, List.drop_succ_cons, List.drop_zero, List.append_nil, List.cons_append, List.getElem?_cons_succ, List.getElem?_cons_zero] at hr0 hr1; have HG9 := Lib.hid hg9; clear hn9 hg9))
      refine bodyPost_ret (v := .tuple #[.agg #[.int .i64 s, .slice An 0 cn], .int .i64 0, u10, .slice none 0 0]) (by simp [results, Try.results33, go_sem, hr0, hr1]) rfl ?_
      refine HV.out.post HKN.out HG9.out HD2.out.below.size ?_
      rw [stepW, if_neg (by rw [HK.out]; decide), if_neg (by rw [HK.out]; decide), if_pos HK.out]

set_option maxRecDepth 20000 in
set_option maxHeartbeats 2000000 in
theorem do_3 (g c : Nat) (A : Option Addr) (s : Int) (l : List Ofr) (o : Op') (ix : Int) (w : World) (hr : Rd w g 34 A l.length (l.flatMap ofrc)) (hl : l.length ≤ 1000) (hlc : l.length ≤ c) (hok : OkL l) (HIX : Hid (idxI (isId o.id) l 0 = ix)) (HK : Hid (knd o = 3)) (_hT : True) :
    Calls Try.prog 33 #[.agg #[.int .i64 s, .slice A l.length c], .agg (opc o).toArray] w (MPost w g (stepW s l o)) := by
  have hkl := o.kind.toNat_lt
  obtain ⟨i0, hi0, hz0, hz1, hz2⟩ := info_parts info72
  have hb3 : Below w.heap.size w (((w.alloc (.cells #[.int .i64 s, .slice A l.length c] 58)).alloc (.cells (opc o).toArray 51)).alloc (.cells #[.int .i64 0, .slice none 0 0] 58)) := ((bnew w _).trans' (bnew _ _)).trans' (bnew _ _)
  have HR := Lib.hid (hr.below hb3)
  have hgl : g < w.heap.size ∨ l = [] := by
    rcases Nat.eq_zero_or_pos l.length with h0 | h0
    · exact .inr (List.eq_nil_of_length_eq_zero h0)
    · exact .inl (hr.2 h0).1
  have HGL := Lib.hid hgl
  have HB := Lib.hid hb3
  have hm := ((Blk.new w 58 #[.int .i64 s, .slice A l.length c]).alloc (.cells (opc o).toArray 51)).alloc (.cells #[.int .i64 0, .slice none 0 0] 58)
  have HM := Lib.hid hm
  have hop : Blk (((w.alloc (.cells #[.int .i64 s, .slice A l.length c] 58)).alloc (.cells (opc o).toArray 51)).alloc (.cells #[.int .i64 0, .slice none 0 0] 58)) (w.heap.size + 1) 51 (opc o).toArray := by simpa using ((Blk.new (w.alloc (.cells #[.int .i64 s, .slice A l.length c] 58)) 51 (opc o).toArray).alloc (.cells #[.int .i64 0, .slice none 0 0] 58))
  have HOP := Lib.hid hop
  have hrs : Blk (((w.alloc (.cells #[.int .i64 s, .slice A l.length c] 58)).alloc (.cells (opc o).toArray 51)).alloc (.cells #[.int .i64 0, .slice none 0 0] 58)) (w.heap.size + 2) 58 #[.int .i64 0, .slice none 0 0] := by simpa using (Blk.new ((w.alloc (.cells #[.int .i64 s, .slice A l.length c] 58)).alloc (.cells (opc o).toArray 51)) 58 #[.int .i64 0, .slice none 0 0])
  have HRS := Lib.hid hrs
  have m0 := hm.cell 0
  have m1 := hm.cell 1
  simp only [List.getElem?_toArray, List.getElem?_cons_succ, List.getElem?_cons_zero] at m0 m1
  have hlt := hm.lt
  have hsz3 : w.heap.size + 3 = (((w.alloc (.cells #[.int .i64 s, .slice A l.length c] 58)).alloc (.cells (opc o).toArray 51)).alloc (.cells #[.int .i64 0, .slice none 0 0] 58)).heap.size := by simp
  have HSZ := Lib.hid hsz3
  have HLT := Lib.hid hlt
  have M0 := Lib.hid m0
  have M1 := Lib.hid m1
  have HOK := Lib.hid hok
  clear hr hb3 hm m0 m1 hlt hsz3 hgl hok hop hrs
  go_enter Try.func33, Try.ntmps33
  go_wp2_with fail
  refine wp_region_seq (nt := 166) (by kernel_rfl) [0,1,2,3,4,5,6,7] [8] Rb Rb.refl Rb.trans [(2, fun v w' => ∃ g0, v = .slice (some ⟨g0, 0, none⟩) 0 0 ∧ w'.ownsRow (w.heap.size + 3) 72 34 v 0 []), (5, fun v w' => w'.ownsRow (w.heap.size + 3) 72 34 v l.length (l.flatMap ofrc)), (7, fun v w' => ∃ k, v = .pointer (some ⟨k, 0, none⟩) ∧ w.heap.size + 3 ≤ k ∧ Blk w' k 58 #[.int .i64 0, .slice none 0 0])] (by kernel_rfl) (by simp) rfl (by kernel_rfl) (by simp) ?_ ?_
  · refine ⟨fun v w w' _ h2 ⟨g0, h, h'⟩ => ⟨g0, h, below_kept h' h2⟩, fun v w w' _ h2 h => below_kept h h2, fun v w w' _ h2 h => ?_, trivial⟩
    obtain ⟨k, rfl, hk0, hk⟩ := h
    exact ⟨k, rfl, hk0, hk.below h2⟩
  (refine' Sq.det (E := _) (b := _) (by rfl) (by rfl) (by rfl) (fun w' hR hf => ?_) ?_ ?_; rotate_left 2; (· (go_simp; first | done | with_reducible rfl)); (· (simp only [Act.put, List.setIfInBounds_toArray, List.set_cons_zero, List.set_cons_succ]; first | done | rfl)))
  (refine' Sq.det (E := _) (b := _) (by rfl) (by rfl) (by rfl) (fun w' hR hf => ?_) ?_ ?_; rotate_left 2; (· (have hc : w'.cell? ⟨w.heap.size, 0, none⟩ = some (.int .i64 s) := ((below_undrew hR).cell (p := ⟨w.heap.size, 0, none⟩) HLT.out).trans M0.out; go_simp; first | done | with_reducible rfl)); (· (simp only [Act.put, List.setIfInBounds_toArray, List.set_cons_zero, List.set_cons_succ]; first | done | rfl)))
  (refine' Sq.any (f := _) (by rfl) (by rfl) (by rfl) (fun w' hR hf => ?_) (fun v => ?_) (fun v0 => ?_); (· (refine wp_buildSlice 56 0 _ rfl 72 i0 z81 34 Try.underlying56 hi0 hz0 hz1 [] rfl (by simp [numbered]) (by simp) (by simp) ?_; exact ⟨rfl, bnew _ _, _, rfl, World.ownsRow_made w' _ 0 (Nat.le_trans (Nat.le_of_eq HSZ.out) (below_undrew hR).size) (Nat.zero_le _) rfl⟩)); rotate_left 1; (· (simp only [Act.put, List.setIfInBounds_toArray, List.set_cons_zero, List.set_cons_succ]; first | done | rfl)))
  (refine' Sq.det (E := _) (b := _) (by rfl) (by rfl) (by rfl) (fun w' hR hf => ?_) ?_ ?_; rotate_left 2; (· (go_simp; first | done | with_reducible rfl)); (· (simp only [Act.put, List.setIfInBounds_toArray, List.set_cons_zero, List.set_cons_succ]; first | done | rfl)))
  (refine' Sq.det (E := _) (b := _) (by rfl) (by rfl) (by rfl) (fun w' hR hf => ?_) ?_ ?_; rotate_left 2; (· (have hc : w'.cell? ⟨w.heap.size, 1, none⟩ = some (.slice A l.length c) := ((below_undrew hR).cell (p := ⟨w.heap.size, 1, none⟩) HLT.out).trans M1.out; go_simp; first | done | with_reducible rfl)); (· (simp only [Act.put, List.setIfInBounds_toArray, List.set_cons_zero, List.set_cons_succ]; first | done | rfl)))
  (refine' Sq.any (f := _) (by rfl) (by rfl) (by rfl) (fun w' hR hf => ?_) (fun v => ?_) (fun v5 => ?_); (· (obtain ⟨g0, hv0, hv⟩ : ∃ g0, v0 = .slice (some ⟨g0, 0, none⟩) 0 0 ∧ w'.ownsRow (w.heap.size + 3) 72 34 v0 0 [] := hf 2 (by decide) _ rfl; subst hv0; refine wp_app_zero _ _ 56 rfl (w.heap.size + 3) 72 i0 z81 34 48 Try.underlying56 hi0 hz0 hz1 hz2 z81_size (by omega) g0 (by kernel_rfl) hv g A l.length c (l.flatMap ofrc) (by kernel_rfl) (HR.out.below (below_undrew hR)) (by simp only [maxLen]; omega) (by omega) (Nat.le_trans (Nat.le_of_eq HSZ.out) (below_undrew hR).size) ?_; intro v' w1 ho1 hg1; exact ⟨rfl, hg1, ho1⟩)); rotate_left 1; (· (simp only [Act.put, List.setIfInBounds_toArray, List.set_cons_zero, List.set_cons_succ]; first | done | rfl)))
  (refine' Sq.det (E := _) (b := _) (by rfl) (by rfl) (by rfl) (fun w' hR hf => ?_) ?_ ?_; rotate_left 2; (· (have hv : w'.ownsRow (w.heap.size + 3) 72 34 v5 l.length (l.flatMap ofrc) := hf 5 (by decide) _ rfl; exact exec_build58 _ _ s v5 (by kernel_rfl) (by kernel_rfl) (own_slice' hv))); (· (simp only [Act.put, List.setIfInBounds_toArray, List.set_cons_zero, List.set_cons_succ]; first | done | rfl)))
  (refine' Sq.any (f := _) (by rfl) (by rfl) (by rfl) (fun w' hR hf => ?_) (fun v => ?_) (fun v7 => ?_); (· (refine wp_alloc_blk 58 rfl z58 [.int .i64 0, .slice none 0 0] rfl info58z ?_; intro w1 hk1 hk2; exact ⟨rfl, hk2, _, rfl, Nat.le_trans (Nat.le_of_eq HSZ.out) (below_undrew hR).size, hk1⟩)); rotate_left 1; (· (simp only [Act.put, List.setIfInBounds_toArray, List.set_cons_zero, List.set_cons_succ]; first | done | rfl)))
  refine Sq.tail1 (by rfl) fun wq hR hps => ?_
  have h5 : wq.ownsRow (w.heap.size + 3) 72 34 v5 l.length (l.flatMap ofrc) := hps 5 (by decide) _ rfl
  obtain ⟨bn, hbn, hb3, hblk⟩ : ∃ k, v7 = .pointer (some ⟨k, 0, none⟩) ∧ w.heap.size + 3 ≤ k ∧ Blk wq k 58 #[.int .i64 0, .slice none 0 0] := hps 7 (by decide) _ rfl
  subst hbn
  clear hps
  have hR' := below_undrew hR
  refine wpList_store_blk rfl 58 _ _ rfl bn 0 58 [.int .i64 0, .slice none 0 0] [.int .i64 s, v5] hblk (by kernel_rfl) (by kernel_rfl) (size58' _ _) (by simp) (by obtain ⟨A, n, c, rfl⟩ := own_slice' h5; simp [Value.oneCell']) ?_
  intro w1 hn1 hg1 hz1'
  have hne := own_blk_ne h5 hblk (by decide)
  have hrd : Rd w1 g 34 A l.length (l.flatMap ofrc) := by
    rcases HGL.out with h | h
    · exact (HR.out.below hR').grown hg1 (by simp; omega)
    · subst h; exact Rd.nil _ _ _ _
  have hdv : DoVars w w.heap.size s A c l g o s v5 l bn w1 :=
    ⟨(HM.out.below hR').grown hg1 (by simp; omega), (HOP.out.below hR').grown hg1 (by simp; omega), (HRS.out.below hR').grown hg1 (by simp; omega), hn1, h5.kept hg1 (.inr hne), hrd, hb3, HGL.out, (HB.out.trans (hR'.mono HB.out.size)).grown hg1 (Nat.le_trans HB.out.size hR'.size) (fun x hx => by simp at hx; omega)⟩
  have HD := Lib.hid hdv
  obtain ⟨A5, n5, c5, rfl⟩ := own_slice' h5
  clear hdv hrd hne hn1 hg1 hz1' hR' hblk h5 hR HR HB HM HOP HRS HSZ HLT M0 M1 HGL
  have hrm := rem5 o.kind.toNat (by omega) 3 HK.out
  have hbn := HD.out.n.lt
  go_wp2_with (first
    | (with_reducible refine at_dst 19 ?_; refine wpList_load_cells rfl 58 _ rfl w.heap.size 0 [.int .i64 s, .slice A l.length c] rfl _ Try.underlying58 rfl (size58' _ _) (fun j u hu => by rw [Nat.zero_add, HD.out.m.cell, List.getElem?_toArray]; exact hu) ?_)
    | (with_reducible refine at_dst 21 ?_; refine wpList_load_cells rfl 37 _ rfl (w.heap.size + 1) 1 (idc o.id) rfl _ Try.underlying37 rfl (sz_id _) (fun j u hu => ?_) ?_; (have hj : j < 32 := by (have := (List.getElem?_eq_some_iff.1 hu).1; rwa [idc_len] at this)); (rw [HD.out.op.cell, List.getElem?_toArray, opc_id _ j hj]; exact hu))
    | (go_at_call 30; with_reducible refine (mfind_any g c A s l o.id _ HD.out.rd (by omega)).mono ?_; rintro e w2 ⟨he, hb2⟩; rw [HIX.out] at he; subst he; have HD2 := Lib.hid (HD.out.below_ hb2); have hc0 := HD2.out.op0; have hn1 := HD2.out.n1; have hnf := HD2.out.nf 1; clear hb2))
  have HD3 := Lib.hid (HD2.out.pushed (l2 := []) (v2 := .slice none 0 0) (World.grownBy.refl _ _) (World.ownsRow_nil _ _ _ _)).2
  clear hc0 hn1 hnf
  go_loopw [11] (fun si wr => ∃ k v, k ≤ l.length ∧ si = .int .i64 k ∧ DoVars w w.heap.size s A c l g o s v (keepL (l.take k)) bn wr) (fun si _ => l.length - (intOf si).toNat)
  case atStart => exact ⟨0, _, by omega, rfl, HD3.out⟩
  case round =>
    obtain ⟨k, v, hk, rfl, hd⟩ := hrel
    have HV := Lib.hid hd
    obtain ⟨A7, n7, c7, rfl⟩ := own_slice' hd.own
    by_cases hlt : k < l.length
    · obtain ⟨off, hA, hgk, hcc⟩ := hd.elem hlt
      have hok := HOK.out l[k] (List.getElem_mem hlt)
      have HCC := Lib.hid hcc
      have hrr := (hd.rd.elem ofrc_len hlt rfl)
      obtain ⟨_, off', hA', hce⟩ := hrr
      obtain rfl : off = off' := by rw [hA] at hA'; simpa using hA'
      have HCE := Lib.hid hce
      have hm1 : wr.cell? ⟨w.heap.size, 1, none⟩ = some (.slice (some ⟨g, off, none⟩) l.length c) := by rw [← hA]; exact hd.m1
      have HA := Lib.hid hA
      clear hd hA' hce hA
      cases hout : outB l[k]
      · have h2 : 2 ≤ l[k].outcome := by
          simp only [outB, Bool.or_eq_false_iff, beq_eq_false_iff_ne] at hout
          omega
        have HO := Lib.hid hout
        clear hout
        go_wp2_with fail
        clear hcc hm1
        refine wp_region_seq (nt := 166) (by kernel_rfl) [0,1,2,3,4,5,6,7] [8,9,10] Rb Rb.refl Rb.trans [(7, fun v w' => ∃ q, v = .slice (some ⟨q, 0, none⟩) 1 1 ∧ Blk w' q 72 (ofrc l[k]).toArray)] (by kernel_rfl) (by simp) rfl (by kernel_rfl) (by simp) ?_ ?_
        · refine ⟨fun v w w' _ h2 h => ?_, trivial⟩
          obtain ⟨q, rfl, hq⟩ := h
          exact ⟨q, rfl, hq.below h2⟩
        (refine' Sq.det (E := _) (b := _) (by rfl) (by rfl) (by rfl) (fun w' hR hf => ?_) ?_ ?_; rotate_left 2; (· (go_simp; first | done | with_reducible rfl)); (· (simp only [Act.put, List.setIfInBounds_toArray, List.set_cons_zero, List.set_cons_succ]; first | done | rfl)))
        (refine' Sq.det (E := _) (b := _) (by rfl) (by rfl) (by rfl) (fun w' hR hf => ?_) ?_ ?_; rotate_left 2; (· (have hc := (HV.out.below_ (below_undrew hR)).n1; go_simp; first | done | with_reducible rfl)); (· (simp only [Act.put, List.setIfInBounds_toArray, List.set_cons_zero, List.set_cons_succ]; first | done | rfl)))
        (refine' Sq.det (E := _) (b := _) (by rfl) (by rfl) (by rfl) (fun w' hR hf => ?_) ?_ ?_; rotate_left 2; (· (go_simp; first | done | with_reducible rfl)); (· (simp only [Act.put, List.setIfInBounds_toArray, List.set_cons_zero, List.set_cons_succ]; first | done | rfl)))
        (refine' Sq.det (E := _) (b := _) (by rfl) (by rfl) (by rfl) (fun w' hR hf => ?_) ?_ ?_; rotate_left 2; (· (have hc := (HV.out.below_ (below_undrew hR)).m1; rw [HA.out] at hc; go_simp; first | done | with_reducible rfl)); (· (simp only [Act.put, List.setIfInBounds_toArray, List.set_cons_zero, List.set_cons_succ]; first | done | rfl)))
        (refine' Sq.det (E := _) (b := _) (by rfl) (by rfl) (by rfl) (fun w' hR hf => ?_) ?_ ?_; rotate_left 2; (· (go_simp; first | done | with_reducible rfl)); (· (simp only [Act.put, List.setIfInBounds_toArray, List.set_cons_zero, List.set_cons_succ]; first | done | rfl)))
        (refine' Sq.det (E := _) (b := _) (by rfl) (by rfl) (by rfl) (fun w' hR hf => ?_) ?_ ?_; rotate_left 2; (· (go_simp; first | done | with_reducible rfl)); (· (simp only [Act.put, List.setIfInBounds_toArray, List.set_cons_zero, List.set_cons_succ]; first | done | rfl)))
        (refine' Sq.det (E := _) (b := _) (by rfl) (by rfl) (by rfl) (fun w' hR hf => ?_) ?_ ?_; rotate_left 2; (· (refine exec_load_cells 72 _ g (off + k * 34) (ofrc l[k]) ?_ _ Try.underlying72 rfl (by rw [ofrc_len]; exact size72) (fun j u hu => ?_); (· kernel_rfl); exact ((below_undrew hR).cell (p := ⟨g, _, none⟩) hgk).trans (HCE.out j u hu))); (· (simp only [Act.put, List.setIfInBounds_toArray, List.set_cons_zero, List.set_cons_succ]; first | done | rfl)))
        (refine' Sq.any (f := _) (by rfl) (by rfl) (by rfl) (fun w' hR hf => ?_) (fun v => ?_) (fun v7 => ?_); (· (refine wp_buildSlice1 56 _ rfl 72 i0 z81 34 Try.underlying56 hi0 hz0 hz1 (.agg (ofrc l[k]).toArray) (ofrc l[k]) (by kernel_rfl) rfl (ofrc_len _) (by omega) ?_; exact ⟨rfl, bnew _ _, _, rfl, Blk.new _ _ _⟩)); rotate_left 1; (· (simp only [Act.put, List.setIfInBounds_toArray, List.set_cons_zero, List.set_cons_succ]; first | done | rfl)))
        refine Sq.tail3 (by rfl) (by rfl) (by rfl) (fun w3 hR hp => ?_)
        obtain ⟨q, hq, hbq⟩ : ∃ q, v7 = .slice (some ⟨q, 0, none⟩) 1 1 ∧ Blk w3 q 72 (ofrc l[k]).toArray := hp 7 (by decide) _ rfl
        subst hq
        clear hp
        have hv3 := HV.out.below_ (below_undrew hR)
        have hkl7 : (keepL (l.take k)).length ≤ 1000 := by have := keepL_le (l.take k); simp only [List.length_take] at this; omega
        refine wpList_append_own _ rfl (.tmp 153) (.tmp 159) 56 rfl (w.heap.size + 3) 72 i0 z81 34 48 Try.underlying56 hi0 hz0 hz1 hz2 z81_size (by omega) (.slice A7 n7 c7) (keepL (l.take k)).length ((keepL (l.take k)).flatMap ofrc) (by kernel_rfl) hv3.own ⟨q, 0, none⟩ 1 1 (ofrc l[k]) (by kernel_rfl) (by rw [ofrc_len])
          (fun j u hu => by rw [Addr.add_lit, Nat.zero_add, hbq.cell, List.getElem?_toArray]; exact hu) (oneCell_ofrc _) (by simp only [maxLen]; omega) (by omega) (by have := hv3.n.lt; have := hv3.lt; omega) ?_
        intro v' w4 ho4 hg4 _
        obtain ⟨A8, n8, c8, rfl⟩ := own_slice' ho4
        have hpu := hv3.pushed (l2 := keepL (l.take (k + 1))) hg4 (by rw [keepL_take l k hlt, HO.out]; simpa using ho4)
        obtain ⟨hn4, hd4⟩ := hpu
        have hc4 := hn4.cell 1
        have hf4 := hn4.frozen 1
        simp only [List.getElem?_toArray, List.getElem?_cons_succ, List.getElem?_cons_zero] at hc4
        have HD4 := Lib.hid hd4
        clear ho4 hg4 hn4 hd4 hv3 hbq hR
        go_wp2_with fail
        go_roundw
        case rel => exact ⟨k + 1, _, by omega, by go_num, HD4.out⟩
        case measure => simp [intOf]; omega
      · have h2 : l[k].outcome < 2 := by
          simp only [outB, Bool.or_eq_true, beq_iff_eq] at hout
          omega
        have HO := Lib.hid hout
        clear hout
        go_wp2_with fail
        go_roundw
        case rel => exact ⟨k + 1, _, by omega, by go_num, by rw [keepL_take l k hlt, HO.out]; simpa using HV.out⟩
        case measure => simp [intOf]; omega
    · have hm1 := hd.m1
      clear hd
      go_wp2_with fail
      refine wp_region_seq (nt := 166) (by kernel_rfl) [0,1,2] [3,4,5,6] Rb Rb.refl Rb.trans [(2, fun v w' => w'.ownsRow w.heap.size 37 32 v (outs l).length ((outs l).flatMap idc))] (by kernel_rfl) (by simp) rfl (by kernel_rfl) (by simp) ⟨fun v w w' _ h2 h => below_kept h h2, trivial⟩ ?_
      (refine' Sq.det (E := _) (b := _) (by rfl) (by rfl) (by rfl) (fun w' hR hf => ?_) ?_ ?_; rotate_left 2; (· (refine exec_load_cells 58 _ bn 0 [.int .i64 s, .slice A7 n7 c7] ?_ _ Try.underlying58 rfl (size58' _ _) (fun j u hu => ?_); (· kernel_rfl); (rw [Nat.zero_add, (HV.out.n.below (below_undrew hR)).cell, List.getElem?_toArray]; exact hu))); (· (simp only [Act.put, List.setIfInBounds_toArray, List.set_cons_zero, List.set_cons_succ]; first | done | rfl)))
      (refine' Sq.det (E := _) (b := _) (by rfl) (by rfl) (by rfl) (fun w' hR hf => ?_) ?_ ?_; rotate_left 2; (· (refine exec_load_cells 58 _ w.heap.size 0 [.int .i64 s, .slice A l.length c] ?_ _ Try.underlying58 rfl (size58' _ _) (fun j u hu => ?_); (· kernel_rfl); (rw [Nat.zero_add, (HV.out.m.below (below_undrew hR)).cell, List.getElem?_toArray]; exact hu))); (· (simp only [Act.put, List.setIfInBounds_toArray, List.set_cons_zero, List.set_cons_succ]; first | done | rfl)))
      (refine' Sq.any (f := _) (by rfl) (by rfl) (by rfl) (fun w' hR hf => ?_) (fun v => ?_) (fun v2 => ?_); (· (go_wp2_with (go_at_call 27; refine (mout_any g c A s l w' (HV.out.rd.below (below_undrew hR)) (by omega) HOK.out).mono ?_; rintro e w1 ⟨v, rfl, ho, hb1⟩); exact ⟨hb1, ownsRow_base ho (Nat.le_trans HV.out.below.size (below_undrew hR).size)⟩)); rotate_left 1; (· (simp only [Act.put, List.setIfInBounds_toArray, List.set_cons_zero, List.set_cons_succ]; first | done | rfl)))
      refine Sq.tail4 (by rfl) (by rfl) (by rfl) (by rfl) fun w3 hR hp => ?_
      have ho2 : w3.ownsRow w.heap.size 37 32 v2 (outs l).length ((outs l).flatMap idc) := hp 2 (by decide) _ rfl
      have HV3 := Lib.hid (HV.out.below_ (below_undrew hR))
      have HO2 := Lib.hid ho2
      clear hp hR ho2
      refine wpList_store_blk rfl 58 _ _ rfl (w.heap.size + 1 + 1) 0 58 [.int .i64 0, .slice none 0 0] [.int .i64 s, .slice A7 n7 c7] HV3.out.res (by kernel_rfl) (by kernel_rfl) (size58' _ _) (by simp) (by simp [Value.oneCell']) ?_
      intro w9 hn9 hg9 _
      have hr0 := hn9.cell 0
      have hr1 := hn9.cell 1
      simp only [List.getElem?_toArray, List.take_zero, List.nil_append, List.length_cons, List.length_nil, Nat.zero_add, List.drop_succ_cons, List.drop_zero, List.append_nil, List.cons_append, List.getElem?_cons_succ, List.getElem?_cons_zero] at hr0 hr1
      have HG9 := Lib.hid hg9
      clear hn9 hg9 hm1
      go_wp2_with fail
      refine bodyPost_ret (v := .tuple #[.agg #[.int .i64 s, .slice A7 n7 c7], .int .i64 0, .slice none 0 0, v2]) (by simp [results, Try.results33, go_sem, hr0, hr1]) rfl ?_
      refine mpost_n (rs := []) (is := outs l) HV3.out HG9.out (World.ownsRow_nil _ _ _ _) HO2.out ?_
      rw [stepW, if_neg (by rw [HK.out]; decide), if_neg (by rw [HK.out]; decide), if_neg (by rw [HK.out]; decide), if_pos HK.out, List.take_of_length_le (by omega)]

/-- the model's step is the window's -/
theorem do_any (g c : Nat) (A : Option Addr) (s : Int) (l : List Ofr) (o : Op') (w : World) (hr : Rd w g 34 A l.length (l.flatMap ofrc)) (hl : l.length ≤ 1000) (hlc : l.length ≤ c) (hok : OkL l) :
    Calls Try.prog 33 #[.agg #[.int .i64 s, .slice A l.length c], .agg (opc o).toArray] w (MPost w g (stepW s l o)) := by
  have hkn := knd_lt o
  rcases (by omega : knd o = 0 ∨ knd o = 1 ∨ knd o = 2 ∨ knd o = 3 ∨ knd o = 4) with hk | hk | hk | hk | hk
  · cases hn : badN o.n
    · cases hd : hasId l o.id
      · have hix := (hasId_idx l o.id).2 hd
        by_cases hb : s ≤ ((outs l).length : Int)
        · exact do_0c g c A s l o _ w hr hl hlc hok rfl hk hn hd (by omega) hb
        · exact do_0d g c A s l o _ w hr hl hlc hok rfl hk hn hd (by omega) (by omega)
      · exact do_0b g c A s l o _ w hr hl hlc hok rfl hk hn hd ((hasId_idx l o.id).1 hd)
    · exact do_0a g c A s l o _ w hr hl hlc hok rfl hk hn
  · rcases idxI_spec (isId o.id) l 0 with ⟨h1, h2⟩ | ⟨k, hkl, h1, h2, h3, h4⟩
    · exact do_1a g c A s l o _ w hr hl hlc hok rfl hk h2 (by omega)
    · by_cases ho : o.n < 1 ∨ 5 < o.n
      · exact do_1b g c A s l o _ w hr hl hlc hok rfl hk l[k] h3 (by omega) ho
      · cases hp : possB l[k].outcome o.n
        · exact do_1c g c A s l o _ w hr hl hlc hok rfl hk k hkl (by omega) h3 (by omega) (by omega) hp
        · exact do_1d g c A s l o _ w hr hl hlc hok rfl hk k hkl (by omega) h3 h4 (by omega) (by omega) hp
  · exact do_2 g c A s l o _ w hr hl hlc hok rfl hk trivial
  · exact do_3 g c A s l o _ w hr hl hlc hok rfl hk trivial
  · cases hn : validB o.n
    · exact do_4a g c A s l o _ w hr hl hlc hok rfl hk hn
    · exact do_4b g c A s l o _ w hr hl hlc hok rfl hk hn
end Go.Proofs.Ytbcejdmgdgghfaa
