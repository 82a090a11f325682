/- WindowClone: the walk and its plain law. Condition: at most 100 operations each, as the statement has it. -/
import Derived.Test.YtbcejdmgdgghfaaWz
namespace Go.Proofs.Ytbcejdmgdgghfaa
set_option linter.unusedSimpArgs false
set_option linter.unusedVariables false
set_option linter.unnecessarySimpa false
open Go.RowKit

/-- the clone in block b and its model's variable in block bm -/
structure CS (B b gw bm gm : Nat) (s : Int) (l : List Ofr) (A : Option Addr) (c : Nat) (wr : World) : Prop where
  win : Win wr b s l gw
  gwb : gw ≠ b
  ok : OkL l
  nd : NdL l
  m : Blk wr bm 58 #[.int .i64 s, .slice A l.length c]
  rd : Rd wr gm 34 A l.length (l.flatMap ofrc)
  lc : l.length ≤ c
  gmb : gm ≠ b
  s1 : 1 ≤ s
  s2 : s ≤ 64
  lb : B ≤ b
  lm : B ≤ bm
  mb : bm ≠ b
section
variable {w wr w' : World} {B b gw bm gm : Nat} {s sm : Int} {l lm : List Ofr} {A : Option Addr} {c : Nat}
theorem CS.below_ (h : CS B b gw bm gm s l A c wr) (hb : Below wr.heap.size wr w') : CS B b gw bm gm s l A c w' :=
  ⟨h.win.below hb, h.gwb, h.ok, h.nd, h.m.below hb, h.rd.below hb, h.lc, h.gmb, h.s1, h.s2, h.lb, h.lm, h.mb⟩
theorem CS.m1 (h : CS B b gw bm gm s l A c wr) : wr.cell? ⟨bm, 1, none⟩ = some (.slice A l.length c) := by rw [h.m.cell]; rfl
theorem CS.m0 (h : CS B b gw bm gm s l A c wr) : wr.cell? ⟨bm, 0, none⟩ = some (.int .i64 s) := by rw [h.m.cell]; rfl
/-- the blocks of the lists, where there are any, are old ones -/
theorem DS.norm (h : DS w b gw bm gm s l sm lm A c wr) : ∃ gw' gm', DS w b gw' bm gm' s l sm lm A c wr ∧ gw' < wr.heap.size ∧ gm' < wr.heap.size := by
  have hbm := h.m.lt
  have hne : bm ≠ b := by
    obtain ⟨A', c', h1, _, _⟩ := h.win
    exact (h1.ne_ h.m (by decide)).symm
  have hw : ∃ gw', Win wr b s l gw' ∧ gw' ≠ b ∧ gw' < wr.heap.size := by
    rcases Nat.eq_zero_or_pos l.length with h0 | h0
    · have : l = [] := List.eq_nil_of_length_eq_zero h0
      subst this
      exact ⟨bm, h.win.nil_at, hne, hbm⟩
    · obtain ⟨A', c', _, h2, _⟩ := h.win
      exact ⟨gw, h.win, h.gwb, (h2.2 h0).1⟩
  have hm : ∃ gm', Rd wr gm' 34 A lm.length (lm.flatMap ofrc) ∧ gm' ≠ b ∧ gm' < wr.heap.size := by
    rcases Nat.eq_zero_or_pos lm.length with h0 | h0
    · have : lm = [] := List.eq_nil_of_length_eq_zero h0
      subst this
      exact ⟨bm, Rd.nil _ _ _ _, hne, hbm⟩
    · exact ⟨gm, h.rd, h.gmb, (h.rd.2 h0).1⟩
  obtain ⟨gw', h1, h2, h3⟩ := hw
  obtain ⟨gm', k1, k2, k3⟩ := hm
  exact ⟨gw', gm', ⟨h1, h2, h.m, k1, h.lc, k2, h.lb, h.below⟩, h3, k3⟩
theorem DS.other (h : DS w b gw bm gm s l sm lm A c wr) {x : Nat} (hgw : gw < B) (hgm : gm < B) (hbm : bm < B ∧ b < B) (hg : wr.grownBy w' (some x)) (hx : B ≤ x) : DS w b gw bm gm s l sm lm A c w' :=
  ⟨h.win.grown hg (by simp; omega) (by simp; omega), h.gwb, h.m.grown hg (by simp; omega), h.rd.grown hg (by simp; omega), h.lc, h.gmb, h.lb, h.below.grown hg h.below.size (fun y hy => by have := h.lb; simp at hy; omega)⟩
end

set_option maxRecDepth 20000 in
set_option maxHeartbeats 2000000 in
theorem clone_long (n : Int) (l lq : List Op') (c cq : Nat) (A Aq : Option Addr) (w : World) (hl : l.length ≤ maxLen) (hlq : lq.length ≤ maxLen) (h100 : 100 < l.length ∨ 100 < lq.length) :
    Calls Try.prog 9 #[.int .i64 n, .slice A l.length c, .slice Aq lq.length cq] w fun e w' => e = .returned (.bool true) ∧ Below w.heap.size w w' := by
  by_cases h1 : 100 < l.length
  · clear h100
    go_enter Try.func9, Try.ntmps9
    go_wp2_with (first
      | (go_at_call 11; with_reducible refine (known_any w).mono ?_; rintro e w1 ⟨rfl, hb1⟩; have HB1 := Lib.hid hb1; clear hb1)
      | (go_at_call 11; with_reducible refine (known_any w1).mono ?_; rintro e w2 ⟨rfl, hb2⟩; have HB2 := Lib.hid (HB1.out.trans' hb2); clear hb2))
    go_ret
    exact ⟨rfl, HB2.out⟩
  · have h2 : 100 < lq.length := by omega
    clear h100
    go_enter Try.func9, Try.ntmps9
    go_wp2_with (first
      | (go_at_call 11; with_reducible refine (known_any w).mono ?_; rintro e w1 ⟨rfl, hb1⟩; have HB1 := Lib.hid hb1; clear hb1)
      | (go_at_call 11; with_reducible refine (known_any w1).mono ?_; rintro e w2 ⟨rfl, hb2⟩; have HB2 := Lib.hid (HB1.out.trans' hb2); clear hb2))
    go_ret
    exact ⟨rfl, HB2.out⟩

theorem take_all2 {l m : List Ofr} {k : Nat} (hk : l.length ≤ k) (hl : l.length = m.length) (h : l.take k = m.take k) : l = m := by
  rwa [List.take_of_length_le hk, List.take_of_length_le (by omega)] at h
theorem take_both {s sk : Int} {l m : List Ofr} {k : Nat} (h : s = sk ∧ l.length = m.length ∧ l.take k = m.take k) (hl : k < l.length) (hm : k < m.length) : decide (l[k] = m[k]) = (decide (s = sk) && decide (l.length = m.length) && decide (l.take (k + 1) = m.take (k + 1))) := by
  obtain ⟨h1, h2, h3⟩ := h
  have e : (l.take (k + 1) = m.take (k + 1)) ↔ l[k] = m[k] := by
    rw [List.take_succ_eq_append_getElem hl, List.take_succ_eq_append_getElem hm, h3]
    constructor
    · intro h
      have := List.append_cancel_left h
      simpa using this
    · intro h; rw [h]
  rw [decide_eq_true h1, decide_eq_true h2, Bool.true_and, Bool.true_and]
  exact decide_eq_decide.2 e.symm
set_option maxRecDepth 40000 in
set_option maxHeartbeats 8000000 in
theorem clone_walk (n : Int) (l lq : List Op') (g gq c cq : Nat) (A Aq : Option Addr) (w : World) (hr : Rd w g 34 A l.length (l.flatMap opc)) (hrq : Rd w gq 34 Aq lq.length (lq.flatMap opc)) (h100 : l.length ≤ 100) (h100q : lq.length ≤ 100) :
    Calls Try.prog 9 #[.int .i64 n, .slice A l.length c, .slice Aq lq.length cq] w fun e w' => e = .returned (.bool true) ∧ Below w.heap.size w w' := by
  have HR := Lib.hid hr
  have HRQ := Lib.hid hrq
  clear hr hrq
  go_enter Try.func9, Try.ntmps9
  go_wp2_with (first
    | (go_at_call 11; with_reducible refine (known_any w).mono ?_; rintro e w1 ⟨rfl, hb1⟩; have HB1 := Lib.hid hb1; clear hb1)
    | (go_at_call 24; with_reducible refine (build_any n l g c A w1 (HR.out.below HB1.out) h100).mono ?_; intro e w2 hbp; unfold BPost at hbp; obtain ⟨b, gw, gm, s, lf, Am, cm, he, hw2, hgb, hok, hnd, hlf, hrm, hcm, hgmb, hs1, hs2, hlb, hb2⟩ := hbp; subst he; have HW2 := Lib.hid hw2; have HOK := Lib.hid hok; have HND := Lib.hid hnd; have HRM := Lib.hid hrm; have hbb := HB1.out.trans' hb2; have HBL := Lib.hid (Nat.le_trans HB1.out.size hlb); have hblt := hw2.cells.1; have HB2 := Lib.hid hbb; have HB12 := Lib.hid hb2; clear hw2 hok hnd hrm hb2 hbb hlb)
    | (with_reducible refine at_dst 8 ?_; refine wpList_alloc_blk rfl 58 rfl z58 [.int .i64 0, .slice none 0 0] rfl info58z ?_; intro w3 hm3 hg3 hz3; have HM3 := Lib.hid hm3; have HW3 := Lib.hid (HW2.out.below hg3.toBelow); have HRM3 := Lib.hid (HRM.out.below hg3.toBelow); have HB3 := Lib.hid (HB2.out.trans' hg3.toBelow); have HG3 := Lib.hid hg3; clear hm3 hg3 hz3)
    | (with_reducible refine at_store 58 8 ?_; refine wpList_store_blk rfl 58 _ _ rfl w2.heap.size 0 58 [.int .i64 0, .slice none 0 0] [.int .i64 s, .slice Am lf.length cm] HM3.out rfl rfl (size58' _ _) (by simp) (by simp [Value.oneCell']) ?_; intro w4 hn4 hg4 _; have HD4 : Hid (DS w b gw w2.heap.size gm s lf s lf Am cm w4) := Lib.hid ⟨win_grown58 HW3.out hgb HM3.out hg4, hgb, by simpa using hn4, rd_grown58 HRM3.out HM3.out hg4, hcm, hgmb, HBL.out, HB3.out.grown hg4 HB3.out.size (fun x hx => by have := HB2.out.size; simp at hx; omega)⟩; have HB14 : Hid (Below w1.heap.size w1 w4) := Lib.hid (HB12.out.trans' ((HG3.out.toBelow).grown hg4 HG3.out.size (fun x hx => by simp at hx; omega))); clear hn4 hg4)
    | (go_at_call 29; with_reducible refine (wclone_any b gw s lf w4 HD4.out.win (by omega)).mono ?_; rintro e w5 ⟨bc, gc, rfl, hb5, hwc, hbc, hgc, hgbc⟩; obtain ⟨gw1, gm1, hdn, hgwl, hgml⟩ := HD4.out.norm; have hbml : w2.heap.size < w4.heap.size ∧ b < w4.heap.size := ⟨HD4.out.m.lt, HD4.out.win.cells.1⟩; have HD5 := Lib.hid (hdn.below_ hb5); have HWC := Lib.hid hwc; have HGC := Lib.hid hgc; have HZ5 := Lib.hid hb5.size; clear hdn hb5 hwc hgc)
    | (go_at_call 32; with_reducible refine (wequal_any bc gc b gw1 s s lf lf w5 HWC.out HD5.out.win (by omega) (by omega)).mono ?_; rintro e w6 ⟨he, hb6⟩; obtain rfl : e = .returned (.bool true) := he.trans (by simp); clear he; have HD6 := Lib.hid (HD5.out.below_ hb6); have HWC6 := Lib.hid (HWC.out.below hb6); have HZ6 := Lib.hid (Nat.le_trans HZ5.out hb6.size); clear hb6)
    | (go_at_call 32; with_reducible refine (wequal_any b gw1 bc gc s s lf lf w6 HD6.out.win HWC6.out (by omega) (by omega)).mono ?_; rintro e w7 ⟨he, hb7⟩; obtain rfl : e = .returned (.bool true) := he.trans (by simp); clear he; have HD7 := Lib.hid (HD6.out.below_ hb7); have HWC7 := Lib.hid (HWC6.out.below hb7); have HZ7 := Lib.hid (Nat.le_trans HZ6.out hb7.size); clear hb7)
    | (with_reducible refine at_dst 58 ?_; refine wpList_load_cells rfl 58 _ rfl w2.heap.size 0 [.int .i64 s, .slice Am lf.length cm] rfl _ Try.underlying58 rfl (size58' _ _) (fun j u hu => by rw [Nat.zero_add, HD7.out.m.cell, List.getElem?_toArray]; exact hu) ?_)
    | (with_reducible refine at_dst 11 ?_; refine wpList_alloc_blk rfl 58 rfl z58 [.int .i64 0, .slice none 0 0] rfl info58z ?_; intro w8 hm8 hg8 hz8; have HM8 := Lib.hid hm8; have HD8 := Lib.hid (HD7.out.below_ hg8.toBelow); have HWC8 := Lib.hid (HWC7.out.below hg8.toBelow); clear hm8 hg8 hz8)
    | (with_reducible refine at_store 58 11 ?_; refine wpList_store_blk rfl 58 _ _ rfl w7.heap.size 0 58 [.int .i64 0, .slice none 0 0] [.int .i64 s, .slice Am lf.length cm] HM8.out rfl rfl (size58' _ _) (by simp) (by simp [Value.oneCell']) ?_; intro w9 hn9 hg9 _; have HC9 : Hid (CS w4.heap.size bc gc w7.heap.size gm1 s lf Am cm w9) := Lib.hid ⟨win_grown58 HWC8.out hgbc HM8.out hg9, hgbc, HOK.out, HND.out, by simpa using hn9, HD8.out.rd.grown hg9 (by have := HZ7.out; simp; omega), hcm, by omega, hs1, hs2, hbc, HZ7.out, by have := HWC7.out.cells.1; omega⟩; have HD9 := Lib.hid (HD8.out.other hgwl hgml hbml hg9 HZ7.out); clear hn9 hg9))
  have HZW := Lib.hid HD4.out.below.size
  go_loopw [12] (fun si wr => ∃ k sk lk gw2 gm2 An cn, k ≤ lq.length ∧ si = .int .i64 k ∧ lk.length ≤ 100 + k ∧ CS w4.heap.size bc gw2 w7.heap.size gm2 sk lk An cn wr ∧ DS w b gw1 w2.heap.size gm1 s lf s lf Am cm wr) (fun si _ => lq.length - (intOf si).toNat)
  case atStart => exact ⟨0, s, lf, gc, gm1, Am, cm, by omega, rfl, by omega, HC9.out, HD9.out⟩
  case round =>
    obtain ⟨k, sk, lk, gw2, gm2, An, cn, hk, rfl, hlk, hcs, hdo⟩ := hrel
    have HS := Lib.hid hcs
    have HDO := Lib.hid hdo
    clear hcs hdo
    by_cases hlt : k < lq.length
    · skip
      obtain ⟨hg, off, rfl, hc⟩ := (HRQ.out.below HDO.out.below).elem opc_len hlt rfl
      have HC := Lib.hid hc
      clear hc
      obtain ⟨t, ht⟩ : ∃ t, t = stepW sk lk lq[k] := ⟨_, rfl⟩
      have HT := Lib.hid ht
      clear ht
      go_wp2_with (first
        | (with_reducible refine at_dst 70 ?_; refine wpList_load_cells rfl 51 _ rfl gq (off + k * 34) (opc lq[k]) rfl _ Try.underlying51 rfl (by rw [opc_len]; exact size51) (fun j u hu => HC.out j u hu) ?_)
        | (go_at_call 23; with_reducible refine (perform_any bc gw2 sk lk lq[k] wr HS.out.win (by omega) HS.out.gwb HS.out.ok).mono ?_; intro e x3 hpp; rw [← HT.out] at hpp; unfold PPost at hpp; obtain ⟨v1, v2, he, ho1, ho2, hg3, g3, hx3, hgb3⟩ := hpp; subst he; have HO1 := Lib.hid ho1; have HO2 := Lib.hid ho2; have HG5 := Lib.hid hg3; have HY3 := Lib.hid hx3; clear ho1 ho2 hg3 hx3))
      have HN3 := Lib.hid (HS.out.m.grown HG5.out (by simpa using HS.out.mb))
      have HRD3 := Lib.hid (HS.out.rd.grown HG5.out (by simpa using HS.out.gmb))
      have HDO3 := Lib.hid (HDO.out.other hgwl hgml hbml HG5.out HS.out.lb)
      obtain ⟨hg3', off', hA', hc3⟩ := (HRQ.out.below HDO3.out.below).elem opc_len hlt rfl
      obtain rfl : off = off' := by simpa using hA'
      have HC3 := Lib.hid hc3
      have HG5' := Lib.hid hg3'
      clear hA' hc3 hg3'
      refine wp_region_seqX (nt := 159) (by kernel_rfl) ⟨Rb, some 12, fun j => Nat.beq j 11, PC58 x3.heap.size⟩ [0,1,2,3,4,5,6,7,8,9,10,11,12,13,14,15] [] (Rv x3.heap.size 58 F58) Rv.refl Rb.refl Rv.of_rb Rv.trans [(5, DoV x3.heap.size gm2 t), (6, DoV x3.heap.size gm2 t), (7, MV x3.heap.size gm2 t), (9, fun v w' => w'.ownsRow x3.heap.size 43 33 v t.res.length (t.res.flatMap resc)), (10, fun v w' => w'.ownsRow x3.heap.size 37 32 v t.ids.length (t.ids.flatMap idc)), (11, fun v w' => ∃ q, v = .pointer (some ⟨q, 0, none⟩) ∧ x3.heap.size ≤ q ∧ Blk w' q 58 #[.int .i64 0, .slice none 0 0]), (12, fun _ _ => True)] (by kernel_rfl) (by simp) rfl (by kernel_rfl) (by simp) ?_ ?_ ?_ ?_
      · rintro f w w' _ h2 ⟨q, sz, A, n, c, e1, e2, e3, h⟩
        exact ⟨q, sz, A, n, c, e1, e2, e3, h.below h2⟩
      · intro i hi
        obtain rfl : 12 = i := by simpa [Ext.at] using hi
        rfl
      · refine ⟨fun v w w' h0 h2 h => ?_, fun v w w' h0 h2 h => ?_, fun v w w' h0 h2 h => ?_, fun v w w' h0 h2 h => ?_, fun v w w' h0 h2 h => ?_, fun v w w' h0 h2 h => ?_, fun _ _ _ _ _ h => h, trivial⟩
        · exact h2.elim (fun h2 => h.rv h2.2 (rv_size h0 (Nat.le_refl _))) h.rb
        · exact h2.elim (fun h2 => h.rv h2.2 (rv_size h0 (Nat.le_refl _))) h.rb
        · exact h2.elim (fun h2 => h.rv h2.2 (rv_size h0 (Nat.le_refl _))) h.rb
        · exact h2.elim (fun h2 => h2.2.own (rv_size h0 (Nat.le_refl _)) h (by decide)) (below_kept h)
        · exact h2.elim (fun h2 => h2.2.own (rv_size h0 (Nat.le_refl _)) h (by decide)) (below_kept h)
        · rcases h2 with h2 | h2
          · exact absurd h2.1.1 (fun h => by cases h)
          · obtain ⟨q, e, hq, hb⟩ := h
            exact ⟨q, e, hq, hb.below h2⟩
      (refine' Sq.det (E := _) (b := _) (by rfl) (by rfl) (by rfl) (fun w' hR hf => ?_) ?_ ?_; rotate_left 2; (· (refine exec_load_cells 58 _ w7.heap.size 0 [.int .i64 sk, .slice An lk.length cn] ?_ _ Try.underlying58 rfl (size58' _ _) (fun j u hu => ?_); (· kernel_rfl); (rw [Nat.zero_add, (HN3.out.below (rv_below hR)).cell, List.getElem?_toArray]; exact hu))); (· (simp only [Act.put, List.setIfInBounds_toArray, List.set_cons_zero, List.set_cons_succ]; first | done | rfl)))
      iterate 3 (refine' Sq.det (E := _) (b := _) (by rfl) (by rfl) (by rfl) (fun w' hR hf => ?_) ?_ ?_; rotate_left 2; (· (go_simp; first | done | with_reducible rfl)); (· (simp only [Act.put, List.setIfInBounds_toArray, List.set_cons_zero, List.set_cons_succ]; first | done | rfl)))
      (refine' Sq.det (E := _) (b := _) (by rfl) (by rfl) (by rfl) (fun w' hR hf => ?_) ?_ ?_; rotate_left 2; (· (refine exec_load_cells 51 _ gq (off + k * 34) (opc lq[k]) ?_ _ Try.underlying51 rfl (by rw [opc_len]; exact size51) (fun j u hu => ?_); (· kernel_rfl); exact ((rv_below hR).cell (p := ⟨gq, _, none⟩) HG5'.out).trans (HC3.out j u hu))); (· (simp only [Act.put, List.setIfInBounds_toArray, List.set_cons_zero, List.set_cons_succ]; first | done | rfl)))
      (refine' Sq.anyX (f := _) (by rfl) (by rfl) (by rfl) (by rfl) (fun w' hR hf => ?_) (fun v => ?_) (fun v5 => ?_); (· (go_wp2_with (go_at_call 33; refine (do_any gm2 cn An sk lk lq[k] w' (HRD3.out.below (rv_below hR)) (by omega) HS.out.lc HS.out.ok).mono ?_; intro e w1 hmp; rw [← HT.out] at hmp; unfold MPost at hmp; obtain ⟨A', c', g', y1, y2, he, m1, m2, m3, m4, m5, m6⟩ := hmp; subst he); have hsz := (rv_below hR).size; exact ⟨m5, _, y1, y2, rfl, ⟨A', c', g', rfl, m1, m2, m6.imp id (Nat.le_trans hsz)⟩, ownsRow_base m3 hsz, ownsRow_base m4 hsz⟩)); rotate_left 1; (· (simp only [Act.put, List.setIfInBounds_toArray, List.set_cons_zero, List.set_cons_succ]; first | done | rfl)))
      (refine' Sq.anyX (f := _) (by rfl) (by rfl) (by rfl) (by rfl) (fun w' hR hf => ?_) (fun v => ?_) (fun v6 => ?_); (· (have h5 : DoV x3.heap.size gm2 t v5 w' := hf 5 (by decide) _ rfl; refine wp_run (v := v5) (by rfl) ?_; exact ⟨rfl, Rb.refl _, h5⟩)); rotate_left 1; (· (simp only [Act.put, List.setIfInBounds_toArray, List.set_cons_zero, List.set_cons_succ]; first | done | rfl)))
      (refine' Sq.anyX (f := _) (by rfl) (by rfl) (by rfl) (by rfl) (fun w' hR hf => ?_) (fun v => ?_) (fun v7 => ?_); (· (obtain ⟨m, y1, y2, hv, h7, _⟩ : DoV x3.heap.size gm2 t v6 w' := hf 6 (by decide) _ rfl; subst hv; refine wp_run (v := m) (by rfl) ?_; exact ⟨rfl, Rb.refl _, h7⟩)); rotate_left 1; (· (simp only [Act.put, List.setIfInBounds_toArray, List.set_cons_zero, List.set_cons_succ]; first | done | rfl)))
      (refine' Sq.det (E := _) (b := _) (by rfl) (by rfl) (by rfl) (fun w' hR hf => ?_) ?_ ?_; rotate_left 2; (· (obtain ⟨m, y1, y2, hv, h7, _⟩ : DoV x3.heap.size gm2 t v6 w' := hf 6 (by decide) _ rfl; subst hv; go_simp; first | done | with_reducible rfl)); (· (simp only [Act.put, List.setIfInBounds_toArray, List.set_cons_zero, List.set_cons_succ]; first | done | rfl)))
      (refine' Sq.anyX (f := _) (by rfl) (by rfl) (by rfl) (by rfl) (fun w' hR hf => ?_) (fun v => ?_) (fun v9 => ?_); (· (obtain ⟨m, y1, y2, hv, _, h9, _⟩ : DoV x3.heap.size gm2 t v6 w' := hf 6 (by decide) _ rfl; subst hv; refine wp_run (v := y1) (by rfl) ?_; exact ⟨rfl, Rb.refl _, h9⟩)); rotate_left 1; (· (simp only [Act.put, List.setIfInBounds_toArray, List.set_cons_zero, List.set_cons_succ]; first | done | rfl)))
      (refine' Sq.anyX (f := _) (by rfl) (by rfl) (by rfl) (by rfl) (fun w' hR hf => ?_) (fun v => ?_) (fun v10 => ?_); (· (obtain ⟨m, y1, y2, hv, _, _, h10⟩ : DoV x3.heap.size gm2 t v6 w' := hf 6 (by decide) _ rfl; subst hv; refine wp_run (v := y2) (by rfl) ?_; exact ⟨rfl, Rb.refl _, h10⟩)); rotate_left 1; (· (simp only [Act.put, List.setIfInBounds_toArray, List.set_cons_zero, List.set_cons_succ]; first | done | rfl)))
      (refine' Sq.anyX (f := _) (by rfl) (by rfl) (by rfl) (by rfl) (fun w' hR hf => ?_) (fun v => ?_) (fun v11 => ?_); (· (refine wp_alloc_blk 58 rfl z58 [.int .i64 0, .slice none 0 0] rfl info58z ?_; intro w1 hk1 hk2; exact ⟨rfl, hk2, _, rfl, (rv_below hR).size, hk1⟩)); rotate_left 1; (· (simp only [Act.put, List.setIfInBounds_toArray, List.set_cons_zero, List.set_cons_succ]; first | done | rfl)))
      (refine' Sq.store (by rfl) (by rfl) (by rfl) (by rfl) (fun w' hR hf => ?_) ?_; (· (obtain ⟨q, hq, hqB, hbq⟩ : ∃ q, v11 = .pointer (some ⟨q, 0, none⟩) ∧ x3.heap.size ≤ q ∧ Blk w' q 58 #[.int .i64 0, .slice none 0 0] := hf 11 (by decide) _ rfl; subst hq; obtain ⟨A', c', g', hv7, _⟩ : MV x3.heap.size gm2 t v7 w' := hf 7 (by decide) _ rfl; subst hv7; refine wp_store_blk 58 _ _ rfl q 0 58 [.int .i64 0, .slice none 0 0] [.int .i64 t.size, .slice A' t.offers.length c'] hbq (by kernel_rfl) (by kernel_rfl) (size58' _ _) (by simp) (by simp [Value.oneCell']) ?_; intro w1 hn1 hg1 _; refine ⟨rfl, Rv.store hbq ⟨_, _, _, _, rfl⟩ hqB hg1, ?_⟩; exact ⟨q, t.size, A', _, c', rfl, rfl, hqB, by simpa using hn1⟩)))
      iterate 3 (refine' Sq.det (E := _) (b := _) (by rfl) (by rfl) (by rfl) (fun w' hR hf => ?_) ?_ ?_; rotate_left 2; (· (go_simp; first | done | with_reducible rfl)); (· (simp only [Act.put, List.setIfInBounds_toArray, List.set_cons_zero, List.set_cons_succ]; first | done | rfl)))
      refine Sq.doneX fun x4 hR hp hpc => ?_
      have h7 : MV x3.heap.size gm2 t v7 x4 := hp 7 (by decide) _ rfl
      have h9 : x4.ownsRow x3.heap.size 43 33 v9 t.res.length (t.res.flatMap resc) := hp 9 (by decide) _ rfl
      have h10 : x4.ownsRow x3.heap.size 37 32 v10 t.ids.length (t.ids.flatMap idc) := hp 10 (by decide) _ rfl
      obtain ⟨q, sz, A', n2, c', e1, e2, hqB, hbq⟩ := hpc 12 (by decide) rfl
      have e1' : v11 = .pointer (some ⟨q, 0, none⟩) := e1
      have e2' : v7 = .agg #[.int .i64 sz, .slice A' n2 c'] := e2
      obtain ⟨A2, c2, g', e3, hr7, hc7, hg7⟩ := h7
      rw [e2'] at e3
      simp only [Value.agg.injEq, Array.mk.injEq, List.cons.injEq, Value.int.injEq, Value.slice.injEq, true_and, and_true] at e3
      obtain ⟨rfl, rfl, rfl, rfl⟩ := e3
      subst e1' e2'
      have hb4 := rv_below hR
      obtain ⟨A9, c9, rfl⟩ := own_slice h9
      obtain ⟨A10, c10, rfl⟩ := own_slice h10
      have ho1 := below_kept HO1.out hb4
      have ho2 := below_kept HO2.out hb4
      obtain ⟨A1, c1, rfl⟩ := own_slice ho1
      obtain ⟨A3, c3, rfl⟩ := own_slice ho2
      obtain ⟨q1, hr1, _, _⟩ := Rd.own ho1
      obtain ⟨q3, hr3, _, _⟩ := Rd.own ho2
      obtain ⟨q9, hr9, _, _⟩ := Rd.own h9
      obtain ⟨q10, hr10, _, _⟩ := Rd.own h10
      have hlens : t.res.length ≤ lk.length ∧ t.ids.length ≤ lk.length := by rw [HT.out]; exact step_lens _ _ _
      obtain ⟨hl1, hl2⟩ := hlens
      have HR1 := Lib.hid hr1
      have HR3 := Lib.hid hr3
      have HR9 := Lib.hid hr9
      have HR10 := Lib.hid hr10
      have HR7 := Lib.hid hr7
      have HG7 := Lib.hid hg7
      have HQ := Lib.hid hbq
      have HX4 := Lib.hid hb4
      clear hr1 hr3 hr9 hr10 hr7 hg7 hbq ho1 ho2 h9 h10 hp hpc hb4 hR e1 e2
      go_wp2_with (first
        | (go_at_call 18; with_reducible refine (results_any t.res t.res q1 c1 q9 c9 A1 A9 x4 HR1.out HR9.out (by omega) (by omega)).mono ?_; rintro e x5 ⟨he, hb5⟩; rw [decide_eq_true (show t.res = t.res from rfl)] at he; subst he; have HB5 := Lib.hid (HX4.out.trans' hb5); have HX45 := Lib.hid hb5; clear hb5)
        | (go_at_call 26; with_reducible refine (ids_any t.ids t.ids q3 c3 q10 c10 A3 A10 x5 (HR3.out.below HX45.out) (HR10.out.below HX45.out) (by omega) (by omega)).mono ?_; rintro e x6 ⟨he, hb6⟩; rw [decide_eq_true (show t.ids = t.ids from rfl)] at he; subst he; have HX46 := Lib.hid (HX45.out.trans' hb6); clear hb6)
        | (with_reducible refine at_dst 101 ?_; refine wpList_load_cells rfl 58 _ rfl q 0 [.int .i64 t.size, .slice A' t.offers.length c'] rfl _ Try.underlying58 rfl (size58' _ _) (fun j u hu => by rw [Nat.zero_add, (HQ.out.below HX46.out).cell, List.getElem?_toArray]; exact hu) ?_)
        | (with_reducible refine at_store 58 11 ?_; refine wpList_store_blk rfl 58 _ _ rfl w7.heap.size 0 58 [.int .i64 sk, .slice An lk.length cn] [.int .i64 t.size, .slice A' t.offers.length c'] ((HN3.out.below HX4.out).below HX46.out) rfl rfl (size58' _ _) (by simp) (by simp [Value.oneCell']) ?_; intro x7 hn7 hg7 _; have HN7 := Lib.hid hn7; have HG7' := Lib.hid hg7; clear hn7 hg7))
      go_roundw
      case rel =>
        have hmb := (HN3.out.below HX4.out).below HX46.out
        have hw6 := (HY3.out.below HX4.out).below HX46.out
        have hsz := step_sz (l := lk) (o := lq[k]) HS.out.s1 HS.out.s2
        have hok := okL_step (s := sk) (o := lq[k]) HS.out.ok
        have hnd := ndL_step (s := sk) (o := lq[k]) HS.out.nd
        have hln := len_step sk lk lq[k]
        rw [← HT.out] at hsz hok hln hnd
        refine ⟨k + 1, t.size, t.offers, g3, g', A', c', by omega, by go_num, by omega, ⟨win_grown58 hw6 hgb3 hmb HG7'.out, hgb3, hok, hnd, by simpa using HN7.out, rd_grown58 (HR7.out.below HX46.out) hmb HG7'.out, hc7, ?_, hsz.1, hsz.2, HS.out.lb, HS.out.lm, HS.out.mb⟩, (((HDO3.out.below_ HX4.out).below_ HX46.out).other hgwl hgml hbml HG7'.out HS.out.lm)⟩
        rcases HG7.out with h | h
        · rw [h]; exact HS.out.gmb
        · have := HY3.out.cells.1; omega
      case measure => simp [intOf]; omega
    · have hm1 := HDO.out.m1
      have hm0 := HDO.out.m0
      have hn1 := HS.out.m1
      have hn0 := HS.out.m0
      have hlk2 : lk.length ≤ 200 := by omega
      by_cases hsq : s = sk
      · have hbe : (s == sk) = true := by simpa using hsq
        by_cases hlq : lf.length = lk.length
        · have hle : ((lf.length : Int) == (lk.length : Int)) = true := by simp [hlq]
          have HSQ := Lib.hid hsq
          have HLQ := Lib.hid hlq
          clear hsq hlq
          go_wp2_with fail
          go_loopw [20, 21] (fun ev iv yr => ∃ k e, k ≤ lf.length ∧ iv = .int .i64 k ∧ ev = .bool e ∧ Hid (e = (decide (s = sk) && decide (lf.length = lk.length) && decide (lf.take k = lk.take k))) ∧ CS w4.heap.size bc gw2 w7.heap.size gm2 sk lk An cn yr ∧ DS w b gw1 w2.heap.size gm1 s lf s lf Am cm yr) (fun _ iv _ => lf.length - (intOf iv).toNat)
          case atStart => exact ⟨0, _, by omega, rfl, rfl, Lib.hid (by simp [HSQ.out, HLQ.out]), HS.out, HDO.out⟩
          case round =>
            clear hm1 hm0 hn1 hn0
            obtain ⟨k, e, hk, rfl, rfl, he, hks, hos⟩ := hrel
            have HK2 := Lib.hid hks
            have HO2 := Lib.hid hos
            have HE2 := Lib.hid he
            have hm1 := hos.m1
            have hn1 := hks.m1
            clear hks hos he
            cases e
            · have HEQ : Hid ((decide (sk = s) && decide (lk = lf)) = false) := Lib.hid (by
                have h := HE2.out.out
                by_cases h1 : sk = s
                · by_cases h2 : lk = lf
                  · subst h1 h2; simp at h
                  · simp [h2]
                · simp [h1])
              have HEQ' : Hid ((decide (s = sk) && decide (lf = lk)) = false) := Lib.hid (by rw [← HEQ.out]; simp [eq_comm])
              go_wp2_with (first
                | (with_reducible refine at_dst 138 ?_; refine wpList_load_cells rfl 58 _ rfl w2.heap.size 0 [.int .i64 s, .slice Am lf.length cm] rfl _ Try.underlying58 rfl (size58' _ _) (fun j u hu => by rw [Nat.zero_add, HO2.out.m.cell, List.getElem?_toArray]; exact hu) ?_)
                | (go_at_call 34; with_reducible refine (same_any b gw1 gm1 cm Am s lf wr HO2.out.win HO2.out.rd (by omega) HOK.out HND.out hs1 hs2).mono ?_; rintro e x1 ⟨rfl, hx1⟩; have HO3 := Lib.hid (HO2.out.below_ hx1); have HK3 := Lib.hid (HK2.out.below_ hx1); clear hx1)
                | (with_reducible refine at_dst 142 ?_; refine wpList_wanted (by simp [Region.wanted, yielded]) fun K hK => wp_load_cells 58 _ rfl w7.heap.size 0 [.int .i64 sk, .slice An lk.length cn] rfl _ Try.underlying58 rfl (size58' _ _) (fun j u hu => by rw [Nat.zero_add, HK3.out.m.cell, List.getElem?_toArray]; exact hu) (hK _ _ ?_))
                | (go_at_call 34; with_reducible refine (same_any bc gw2 gm2 cn An sk lk x1 HK3.out.win HK3.out.rd (by omega) HK3.out.ok HK3.out.nd HK3.out.s1 HK3.out.s2).mono ?_; rintro e x2 ⟨rfl, hx2⟩; have HO4 := Lib.hid (HO3.out.below_ hx2); have HK4 := Lib.hid (HK3.out.below_ hx2); clear hx2)
                | (go_at_call 32; with_reducible refine (wequal_any bc gw2 b gw1 sk s lk lf x2 HK4.out.win HO4.out.win (by omega) (by omega)).mono ?_; rintro e x3 ⟨he, hx3⟩; obtain rfl : e = .returned (.bool false) := he.trans (by rw [HEQ.out]); clear he; have HO5 := Lib.hid (HO4.out.below_ hx3); have HK5 := Lib.hid (HK4.out.below_ hx3); clear hx3)
                | (go_at_call 32; with_reducible refine (wequal_any b gw1 bc gw2 s sk lf lk x3 HO5.out.win HK5.out.win (by omega) (by omega)).mono ?_; rintro e x4 ⟨he, hx4⟩; obtain rfl : e = .returned (.bool false) := he.trans (by rw [HEQ'.out]); clear he; have HO6 := Lib.hid (HO5.out.below_ hx4); clear hx4))
              go_ret
              exact ⟨rfl, HO6.out.below⟩
            · have h3 : s = sk ∧ lf.length = lk.length ∧ lf.take k = lk.take k := by
                have h := HE2.out.out
                simp only [Bool.true_eq, Bool.and_eq_true, decide_eq_true_eq] at h
                exact ⟨h.1.1, h.1.2, h.2⟩
              have H3 := Lib.hid h3
              clear h3
              by_cases hlt2 : k < lf.length
              · have hlt3 : k < lk.length := by have := H3.out.2.1; omega
                obtain ⟨hg1, off1, hA1, hc1⟩ := HO2.out.rd.elem ofrc_len hlt2 rfl
                obtain ⟨hg2, off2, hA2, hc2⟩ := HK2.out.rd.elem ofrc_len hlt3 rfl
                have HC1 := Lib.hid hc1
                have HC2 := Lib.hid hc2
                have HG1 := Lib.hid hg1
                have HG2 := Lib.hid hg2
                have HA1 := Lib.hid hA1
                have HA2 := Lib.hid hA2
                clear hc1 hc2 hg1 hg2 hA1 hA2
                have hoe := fun w => run_eql_ofr w lf[k] lk[k]
                have HOE := Lib.hid hoe
                clear hoe
                go_wp2_with fail
                clear hm1 hn1
                refine wp_region_seq (nt := 159) (by kernel_rfl) [0,1,2,3,4,5,6,7,8,9,10] [11] Rb Rb.refl Rb.trans [] (by kernel_rfl) (by simp) rfl (by kernel_rfl) (by simp) trivial ?_
                (refine' Sq.det (E := _) (b := _) (by rfl) (by rfl) (by rfl) (fun w' hR hf => ?_) ?_ ?_; rotate_left 2; (· (go_simp; first | done | with_reducible rfl)); (· (simp only [Act.put, List.setIfInBounds_toArray, List.set_cons_zero, List.set_cons_succ]; first | done | rfl)))
                (refine' Sq.det (E := _) (b := _) (by rfl) (by rfl) (by rfl) (fun w' hR hf => ?_) ?_ ?_; rotate_left 2; (· (have hc := (HO2.out.below_ (below_undrew hR)).m1; rw [HA1.out] at hc; go_simp; first | done | with_reducible rfl)); (· (simp only [Act.put, List.setIfInBounds_toArray, List.set_cons_zero, List.set_cons_succ]; first | done | rfl)))
                (refine' Sq.det (E := _) (b := _) (by rfl) (by rfl) (by rfl) (fun w' hR hf => ?_) ?_ ?_; rotate_left 2; (· (go_simp; first | done | with_reducible rfl)); (· (simp only [Act.put, List.setIfInBounds_toArray, List.set_cons_zero, List.set_cons_succ]; first | done | rfl)))
                (refine' Sq.det (E := _) (b := _) (by rfl) (by rfl) (by rfl) (fun w' hR hf => ?_) ?_ ?_; rotate_left 2; (· (go_simp; first | done | with_reducible rfl)); (· (simp only [Act.put, List.setIfInBounds_toArray, List.set_cons_zero, List.set_cons_succ]; first | done | rfl)))
                (refine' Sq.det (E := _) (b := _) (by rfl) (by rfl) (by rfl) (fun w' hR hf => ?_) ?_ ?_; rotate_left 2; (· (refine exec_load_cells 72 _ gm1 (off1 + k * 34) (ofrc lf[k]) ?_ _ Try.underlying72 rfl (by rw [ofrc_len]; exact size72) (fun j u hu => ?_); (· kernel_rfl); exact ((below_undrew hR).cell (p := ⟨gm1, _, none⟩) HG1.out).trans (HC1.out j u hu))); (· (simp only [Act.put, List.setIfInBounds_toArray, List.set_cons_zero, List.set_cons_succ]; first | done | rfl)))
                (refine' Sq.det (E := _) (b := _) (by rfl) (by rfl) (by rfl) (fun w' hR hf => ?_) ?_ ?_; rotate_left 2; (· (go_simp; first | done | with_reducible rfl)); (· (simp only [Act.put, List.setIfInBounds_toArray, List.set_cons_zero, List.set_cons_succ]; first | done | rfl)))
                (refine' Sq.det (E := _) (b := _) (by rfl) (by rfl) (by rfl) (fun w' hR hf => ?_) ?_ ?_; rotate_left 2; (· (have hc := (HK2.out.below_ (below_undrew hR)).m1; rw [HA2.out] at hc; go_simp; first | done | with_reducible rfl)); (· (simp only [Act.put, List.setIfInBounds_toArray, List.set_cons_zero, List.set_cons_succ]; first | done | rfl)))
                (refine' Sq.det (E := _) (b := _) (by rfl) (by rfl) (by rfl) (fun w' hR hf => ?_) ?_ ?_; rotate_left 2; (· (go_simp; first | done | with_reducible rfl)); (· (simp only [Act.put, List.setIfInBounds_toArray, List.set_cons_zero, List.set_cons_succ]; first | done | rfl)))
                (refine' Sq.det (E := _) (b := _) (by rfl) (by rfl) (by rfl) (fun w' hR hf => ?_) ?_ ?_; rotate_left 2; (· (go_simp; first | done | with_reducible rfl)); (· (simp only [Act.put, List.setIfInBounds_toArray, List.set_cons_zero, List.set_cons_succ]; first | done | rfl)))
                (refine' Sq.det (E := _) (b := _) (by rfl) (by rfl) (by rfl) (fun w' hR hf => ?_) ?_ ?_; rotate_left 2; (· (refine exec_load_cells 72 _ gm2 (off2 + k * 34) (ofrc lk[k]) ?_ _ Try.underlying72 rfl (by rw [ofrc_len]; exact size72) (fun j u hu => ?_); (· kernel_rfl); exact ((below_undrew hR).cell (p := ⟨gm2, _, none⟩) HG2.out).trans (HC2.out j u hu))); (· (simp only [Act.put, List.setIfInBounds_toArray, List.set_cons_zero, List.set_cons_succ]; first | done | rfl)))
                (refine' Sq.det (E := _) (b := _) (by rfl) (by rfl) (by rfl) (fun w' hR hf => ?_) ?_ ?_; rotate_left 2; (· (have hq := HOE.out; go_simp; first | done | with_reducible rfl)); (· (simp only [Act.put, List.setIfInBounds_toArray, List.set_cons_zero, List.set_cons_succ]; first | done | rfl)))
                refine Sq.tail1 (by rfl) fun y2 hR _ => ?_
                have HKb := Lib.hid (HK2.out.below_ (below_undrew hR))
                have HOb := Lib.hid (HO2.out.below_ (below_undrew hR))
                clear hR
                go_wp2_with fail
                go_roundw
                case rel => exact ⟨k + 1, _, by omega, by go_num, rfl, Lib.hid (take_both H3.out hlt2 hlt3), HKb.out, HOb.out⟩
                case measure => simp [intOf]; omega
              · have HEQ : Hid ((decide (sk = s) && decide (lk = lf)) = true) := Lib.hid (by
                  obtain ⟨h1, h2, h3⟩ := H3.out
                  have := take_all2 (by omega) h2 h3
                  simp [h1, this])
                have HEQ' : Hid ((decide (s = sk) && decide (lf = lk)) = true) := Lib.hid (by rw [← HEQ.out]; simp [eq_comm])
                go_wp2_with (first
                  | (with_reducible refine at_dst 138 ?_; refine wpList_load_cells rfl 58 _ rfl w2.heap.size 0 [.int .i64 s, .slice Am lf.length cm] rfl _ Try.underlying58 rfl (size58' _ _) (fun j u hu => by rw [Nat.zero_add, HO2.out.m.cell, List.getElem?_toArray]; exact hu) ?_)
                  | (go_at_call 34; with_reducible refine (same_any b gw1 gm1 cm Am s lf wr HO2.out.win HO2.out.rd (by omega) HOK.out HND.out hs1 hs2).mono ?_; rintro e x1 ⟨rfl, hx1⟩; have HO3 := Lib.hid (HO2.out.below_ hx1); have HK3 := Lib.hid (HK2.out.below_ hx1); clear hx1)
                  | (with_reducible refine at_dst 142 ?_; refine wpList_wanted (by simp [Region.wanted, yielded]) fun K hK => wp_load_cells 58 _ rfl w7.heap.size 0 [.int .i64 sk, .slice An lk.length cn] rfl _ Try.underlying58 rfl (size58' _ _) (fun j u hu => by rw [Nat.zero_add, HK3.out.m.cell, List.getElem?_toArray]; exact hu) (hK _ _ ?_))
                  | (go_at_call 34; with_reducible refine (same_any bc gw2 gm2 cn An sk lk x1 HK3.out.win HK3.out.rd (by omega) HK3.out.ok HK3.out.nd HK3.out.s1 HK3.out.s2).mono ?_; rintro e x2 ⟨rfl, hx2⟩; have HO4 := Lib.hid (HO3.out.below_ hx2); have HK4 := Lib.hid (HK3.out.below_ hx2); clear hx2)
                  | (go_at_call 32; with_reducible refine (wequal_any bc gw2 b gw1 sk s lk lf x2 HK4.out.win HO4.out.win (by omega) (by omega)).mono ?_; rintro e x3 ⟨he, hx3⟩; obtain rfl : e = .returned (.bool true) := he.trans (by rw [HEQ.out]); clear he; have HO5 := Lib.hid (HO4.out.below_ hx3); have HK5 := Lib.hid (HK4.out.below_ hx3); clear hx3)
                  | (go_at_call 32; with_reducible refine (wequal_any b gw1 bc gw2 s sk lf lk x3 HO5.out.win HK5.out.win (by omega) (by omega)).mono ?_; rintro e x4 ⟨he, hx4⟩; obtain rfl : e = .returned (.bool true) := he.trans (by rw [HEQ'.out]); clear he; have HO6 := Lib.hid (HO5.out.below_ hx4); clear hx4))
                go_ret
                exact ⟨rfl, HO6.out.below⟩
        · have hle : ((lf.length : Int) == (lk.length : Int)) = false := by simp; omega
          have HSQ := Lib.hid hsq
          have HLQ := Lib.hid hlq
          clear hsq hlq
          go_wp2_with fail
          go_loopw [20, 21] (fun ev iv yr => ∃ k e, k ≤ lf.length ∧ iv = .int .i64 k ∧ ev = .bool e ∧ Hid (e = (decide (s = sk) && decide (lf.length = lk.length) && decide (lf.take k = lk.take k))) ∧ CS w4.heap.size bc gw2 w7.heap.size gm2 sk lk An cn yr ∧ DS w b gw1 w2.heap.size gm1 s lf s lf Am cm yr) (fun _ iv _ => lf.length - (intOf iv).toNat)
          case atStart => exact ⟨0, _, by omega, rfl, rfl, Lib.hid (by simp [HSQ.out, HLQ.out]), HS.out, HDO.out⟩
          case round =>
            clear hm1 hm0 hn1 hn0
            obtain ⟨k, e, hk, rfl, rfl, he, hks, hos⟩ := hrel
            have HK2 := Lib.hid hks
            have HO2 := Lib.hid hos
            have HE2 := Lib.hid he
            have hm1 := hos.m1
            have hn1 := hks.m1
            clear hks hos he
            cases e
            · have HEQ : Hid ((decide (sk = s) && decide (lk = lf)) = false) := Lib.hid (by
                have h := HE2.out.out
                by_cases h1 : sk = s
                · by_cases h2 : lk = lf
                  · subst h1 h2; simp at h
                  · simp [h2]
                · simp [h1])
              have HEQ' : Hid ((decide (s = sk) && decide (lf = lk)) = false) := Lib.hid (by rw [← HEQ.out]; simp [eq_comm])
              go_wp2_with (first
                | (with_reducible refine at_dst 138 ?_; refine wpList_load_cells rfl 58 _ rfl w2.heap.size 0 [.int .i64 s, .slice Am lf.length cm] rfl _ Try.underlying58 rfl (size58' _ _) (fun j u hu => by rw [Nat.zero_add, HO2.out.m.cell, List.getElem?_toArray]; exact hu) ?_)
                | (go_at_call 34; with_reducible refine (same_any b gw1 gm1 cm Am s lf wr HO2.out.win HO2.out.rd (by omega) HOK.out HND.out hs1 hs2).mono ?_; rintro e x1 ⟨rfl, hx1⟩; have HO3 := Lib.hid (HO2.out.below_ hx1); have HK3 := Lib.hid (HK2.out.below_ hx1); clear hx1)
                | (with_reducible refine at_dst 142 ?_; refine wpList_wanted (by simp [Region.wanted, yielded]) fun K hK => wp_load_cells 58 _ rfl w7.heap.size 0 [.int .i64 sk, .slice An lk.length cn] rfl _ Try.underlying58 rfl (size58' _ _) (fun j u hu => by rw [Nat.zero_add, HK3.out.m.cell, List.getElem?_toArray]; exact hu) (hK _ _ ?_))
                | (go_at_call 34; with_reducible refine (same_any bc gw2 gm2 cn An sk lk x1 HK3.out.win HK3.out.rd (by omega) HK3.out.ok HK3.out.nd HK3.out.s1 HK3.out.s2).mono ?_; rintro e x2 ⟨rfl, hx2⟩; have HO4 := Lib.hid (HO3.out.below_ hx2); have HK4 := Lib.hid (HK3.out.below_ hx2); clear hx2)
                | (go_at_call 32; with_reducible refine (wequal_any bc gw2 b gw1 sk s lk lf x2 HK4.out.win HO4.out.win (by omega) (by omega)).mono ?_; rintro e x3 ⟨he, hx3⟩; obtain rfl : e = .returned (.bool false) := he.trans (by rw [HEQ.out]); clear he; have HO5 := Lib.hid (HO4.out.below_ hx3); have HK5 := Lib.hid (HK4.out.below_ hx3); clear hx3)
                | (go_at_call 32; with_reducible refine (wequal_any b gw1 bc gw2 s sk lf lk x3 HO5.out.win HK5.out.win (by omega) (by omega)).mono ?_; rintro e x4 ⟨he, hx4⟩; obtain rfl : e = .returned (.bool false) := he.trans (by rw [HEQ'.out]); clear he; have HO6 := Lib.hid (HO5.out.below_ hx4); clear hx4))
              go_ret
              exact ⟨rfl, HO6.out.below⟩
            · have h3 : s = sk ∧ lf.length = lk.length ∧ lf.take k = lk.take k := by
                have h := HE2.out.out
                simp only [Bool.true_eq, Bool.and_eq_true, decide_eq_true_eq] at h
                exact ⟨h.1.1, h.1.2, h.2⟩
              have H3 := Lib.hid h3
              clear h3
              by_cases hlt2 : k < lf.length
              · have hlt3 : k < lk.length := by have := H3.out.2.1; omega
                obtain ⟨hg1, off1, hA1, hc1⟩ := HO2.out.rd.elem ofrc_len hlt2 rfl
                obtain ⟨hg2, off2, hA2, hc2⟩ := HK2.out.rd.elem ofrc_len hlt3 rfl
                have HC1 := Lib.hid hc1
                have HC2 := Lib.hid hc2
                have HG1 := Lib.hid hg1
                have HG2 := Lib.hid hg2
                have HA1 := Lib.hid hA1
                have HA2 := Lib.hid hA2
                clear hc1 hc2 hg1 hg2 hA1 hA2
                have hoe := fun w => run_eql_ofr w lf[k] lk[k]
                have HOE := Lib.hid hoe
                clear hoe
                go_wp2_with fail
                clear hm1 hn1
                refine wp_region_seq (nt := 159) (by kernel_rfl) [0,1,2,3,4,5,6,7,8,9,10] [11] Rb Rb.refl Rb.trans [] (by kernel_rfl) (by simp) rfl (by kernel_rfl) (by simp) trivial ?_
                (refine' Sq.det (E := _) (b := _) (by rfl) (by rfl) (by rfl) (fun w' hR hf => ?_) ?_ ?_; rotate_left 2; (· (go_simp; first | done | with_reducible rfl)); (· (simp only [Act.put, List.setIfInBounds_toArray, List.set_cons_zero, List.set_cons_succ]; first | done | rfl)))
                (refine' Sq.det (E := _) (b := _) (by rfl) (by rfl) (by rfl) (fun w' hR hf => ?_) ?_ ?_; rotate_left 2; (· (have hc := (HO2.out.below_ (below_undrew hR)).m1; rw [HA1.out] at hc; go_simp; first | done | with_reducible rfl)); (· (simp only [Act.put, List.setIfInBounds_toArray, List.set_cons_zero, List.set_cons_succ]; first | done | rfl)))
                (refine' Sq.det (E := _) (b := _) (by rfl) (by rfl) (by rfl) (fun w' hR hf => ?_) ?_ ?_; rotate_left 2; (· (go_simp; first | done | with_reducible rfl)); (· (simp only [Act.put, List.setIfInBounds_toArray, List.set_cons_zero, List.set_cons_succ]; first | done | rfl)))
                (refine' Sq.det (E := _) (b := _) (by rfl) (by rfl) (by rfl) (fun w' hR hf => ?_) ?_ ?_; rotate_left 2; (· (go_simp; first | done | with_reducible rfl)); (· (simp only [Act.put, List.setIfInBounds_toArray, List.set_cons_zero, List.set_cons_succ]; first | done | rfl)))
                (refine' Sq.det (E := _) (b := _) (by rfl) (by rfl) (by rfl) (fun w' hR hf => ?_) ?_ ?_; rotate_left 2; (· (refine exec_load_cells 72 _ gm1 (off1 + k * 34) (ofrc lf[k]) ?_ _ Try.underlying72 rfl (by rw [ofrc_len]; exact size72) (fun j u hu => ?_); (· kernel_rfl); exact ((below_undrew hR).cell (p := ⟨gm1, _, none⟩) HG1.out).trans (HC1.out j u hu))); (· (simp only [Act.put, List.setIfInBounds_toArray, List.set_cons_zero, List.set_cons_succ]; first | done | rfl)))
                (refine' Sq.det (E := _) (b := _) (by rfl) (by rfl) (by rfl) (fun w' hR hf => ?_) ?_ ?_; rotate_left 2; (· (go_simp; first | done | with_reducible rfl)); (· (simp only [Act.put, List.setIfInBounds_toArray, List.set_cons_zero, List.set_cons_succ]; first | done | rfl)))
                (refine' Sq.det (E := _) (b := _) (by rfl) (by rfl) (by rfl) (fun w' hR hf => ?_) ?_ ?_; rotate_left 2; (· (have hc := (HK2.out.below_ (below_undrew hR)).m1; rw [HA2.out] at hc; go_simp; first | done | with_reducible rfl)); (· (simp only [Act.put, List.setIfInBounds_toArray, List.set_cons_zero, List.set_cons_succ]; first | done | rfl)))
                (refine' Sq.det (E := _) (b := _) (by rfl) (by rfl) (by rfl) (fun w' hR hf => ?_) ?_ ?_; rotate_left 2; (· (go_simp; first | done | with_reducible rfl)); (· (simp only [Act.put, List.setIfInBounds_toArray, List.set_cons_zero, List.set_cons_succ]; first | done | rfl)))
                (refine' Sq.det (E := _) (b := _) (by rfl) (by rfl) (by rfl) (fun w' hR hf => ?_) ?_ ?_; rotate_left 2; (· (go_simp; first | done | with_reducible rfl)); (· (simp only [Act.put, List.setIfInBounds_toArray, List.set_cons_zero, List.set_cons_succ]; first | done | rfl)))
                (refine' Sq.det (E := _) (b := _) (by rfl) (by rfl) (by rfl) (fun w' hR hf => ?_) ?_ ?_; rotate_left 2; (· (refine exec_load_cells 72 _ gm2 (off2 + k * 34) (ofrc lk[k]) ?_ _ Try.underlying72 rfl (by rw [ofrc_len]; exact size72) (fun j u hu => ?_); (· kernel_rfl); exact ((below_undrew hR).cell (p := ⟨gm2, _, none⟩) HG2.out).trans (HC2.out j u hu))); (· (simp only [Act.put, List.setIfInBounds_toArray, List.set_cons_zero, List.set_cons_succ]; first | done | rfl)))
                (refine' Sq.det (E := _) (b := _) (by rfl) (by rfl) (by rfl) (fun w' hR hf => ?_) ?_ ?_; rotate_left 2; (· (have hq := HOE.out; go_simp; first | done | with_reducible rfl)); (· (simp only [Act.put, List.setIfInBounds_toArray, List.set_cons_zero, List.set_cons_succ]; first | done | rfl)))
                refine Sq.tail1 (by rfl) fun y2 hR _ => ?_
                have HKb := Lib.hid (HK2.out.below_ (below_undrew hR))
                have HOb := Lib.hid (HO2.out.below_ (below_undrew hR))
                clear hR
                go_wp2_with fail
                go_roundw
                case rel => exact ⟨k + 1, _, by omega, by go_num, rfl, Lib.hid (take_both H3.out hlt2 hlt3), HKb.out, HOb.out⟩
                case measure => simp [intOf]; omega
              · have HEQ : Hid ((decide (sk = s) && decide (lk = lf)) = true) := Lib.hid (by
                  obtain ⟨h1, h2, h3⟩ := H3.out
                  have := take_all2 (by omega) h2 h3
                  simp [h1, this])
                have HEQ' : Hid ((decide (s = sk) && decide (lf = lk)) = true) := Lib.hid (by rw [← HEQ.out]; simp [eq_comm])
                go_wp2_with (first
                  | (with_reducible refine at_dst 138 ?_; refine wpList_load_cells rfl 58 _ rfl w2.heap.size 0 [.int .i64 s, .slice Am lf.length cm] rfl _ Try.underlying58 rfl (size58' _ _) (fun j u hu => by rw [Nat.zero_add, HO2.out.m.cell, List.getElem?_toArray]; exact hu) ?_)
                  | (go_at_call 34; with_reducible refine (same_any b gw1 gm1 cm Am s lf wr HO2.out.win HO2.out.rd (by omega) HOK.out HND.out hs1 hs2).mono ?_; rintro e x1 ⟨rfl, hx1⟩; have HO3 := Lib.hid (HO2.out.below_ hx1); have HK3 := Lib.hid (HK2.out.below_ hx1); clear hx1)
                  | (with_reducible refine at_dst 142 ?_; refine wpList_wanted (by simp [Region.wanted, yielded]) fun K hK => wp_load_cells 58 _ rfl w7.heap.size 0 [.int .i64 sk, .slice An lk.length cn] rfl _ Try.underlying58 rfl (size58' _ _) (fun j u hu => by rw [Nat.zero_add, HK3.out.m.cell, List.getElem?_toArray]; exact hu) (hK _ _ ?_))
                  | (go_at_call 34; with_reducible refine (same_any bc gw2 gm2 cn An sk lk x1 HK3.out.win HK3.out.rd (by omega) HK3.out.ok HK3.out.nd HK3.out.s1 HK3.out.s2).mono ?_; rintro e x2 ⟨rfl, hx2⟩; have HO4 := Lib.hid (HO3.out.below_ hx2); have HK4 := Lib.hid (HK3.out.below_ hx2); clear hx2)
                  | (go_at_call 32; with_reducible refine (wequal_any bc gw2 b gw1 sk s lk lf x2 HK4.out.win HO4.out.win (by omega) (by omega)).mono ?_; rintro e x3 ⟨he, hx3⟩; obtain rfl : e = .returned (.bool true) := he.trans (by rw [HEQ.out]); clear he; have HO5 := Lib.hid (HO4.out.below_ hx3); have HK5 := Lib.hid (HK4.out.below_ hx3); clear hx3)
                  | (go_at_call 32; with_reducible refine (wequal_any b gw1 bc gw2 s sk lf lk x3 HO5.out.win HK5.out.win (by omega) (by omega)).mono ?_; rintro e x4 ⟨he, hx4⟩; obtain rfl : e = .returned (.bool true) := he.trans (by rw [HEQ'.out]); clear he; have HO6 := Lib.hid (HO5.out.below_ hx4); clear hx4))
                go_ret
                exact ⟨rfl, HO6.out.below⟩
      · have hbe : (s == sk) = false := by simpa using hsq
        have HSQ := Lib.hid hsq
        have HLQ := Lib.hid trivial
        clear hsq
        go_wp2_with fail
        go_loopw [20, 21] (fun ev iv yr => ∃ k e, k ≤ lf.length ∧ iv = .int .i64 k ∧ ev = .bool e ∧ Hid (e = (decide (s = sk) && decide (lf.length = lk.length) && decide (lf.take k = lk.take k))) ∧ CS w4.heap.size bc gw2 w7.heap.size gm2 sk lk An cn yr ∧ DS w b gw1 w2.heap.size gm1 s lf s lf Am cm yr) (fun _ iv _ => lf.length - (intOf iv).toNat)
        case atStart => exact ⟨0, _, by omega, rfl, rfl, Lib.hid (by simp [HSQ.out, HLQ.out]), HS.out, HDO.out⟩
        case round =>
          clear hm1 hm0 hn1 hn0
          obtain ⟨k, e, hk, rfl, rfl, he, hks, hos⟩ := hrel
          have HK2 := Lib.hid hks
          have HO2 := Lib.hid hos
          have HE2 := Lib.hid he
          have hm1 := hos.m1
          have hn1 := hks.m1
          clear hks hos he
          cases e
          · have HEQ : Hid ((decide (sk = s) && decide (lk = lf)) = false) := Lib.hid (by
              have h := HE2.out.out
              by_cases h1 : sk = s
              · by_cases h2 : lk = lf
                · subst h1 h2; simp at h
                · simp [h2]
              · simp [h1])
            have HEQ' : Hid ((decide (s = sk) && decide (lf = lk)) = false) := Lib.hid (by rw [← HEQ.out]; simp [eq_comm])
            go_wp2_with (first
              | (with_reducible refine at_dst 138 ?_; refine wpList_load_cells rfl 58 _ rfl w2.heap.size 0 [.int .i64 s, .slice Am lf.length cm] rfl _ Try.underlying58 rfl (size58' _ _) (fun j u hu => by rw [Nat.zero_add, HO2.out.m.cell, List.getElem?_toArray]; exact hu) ?_)
              | (go_at_call 34; with_reducible refine (same_any b gw1 gm1 cm Am s lf wr HO2.out.win HO2.out.rd (by omega) HOK.out HND.out hs1 hs2).mono ?_; rintro e x1 ⟨rfl, hx1⟩; have HO3 := Lib.hid (HO2.out.below_ hx1); have HK3 := Lib.hid (HK2.out.below_ hx1); clear hx1)
              | (with_reducible refine at_dst 142 ?_; refine wpList_wanted (by simp [Region.wanted, yielded]) fun K hK => wp_load_cells 58 _ rfl w7.heap.size 0 [.int .i64 sk, .slice An lk.length cn] rfl _ Try.underlying58 rfl (size58' _ _) (fun j u hu => by rw [Nat.zero_add, HK3.out.m.cell, List.getElem?_toArray]; exact hu) (hK _ _ ?_))
              | (go_at_call 34; with_reducible refine (same_any bc gw2 gm2 cn An sk lk x1 HK3.out.win HK3.out.rd (by omega) HK3.out.ok HK3.out.nd HK3.out.s1 HK3.out.s2).mono ?_; rintro e x2 ⟨rfl, hx2⟩; have HO4 := Lib.hid (HO3.out.below_ hx2); have HK4 := Lib.hid (HK3.out.below_ hx2); clear hx2)
              | (go_at_call 32; with_reducible refine (wequal_any bc gw2 b gw1 sk s lk lf x2 HK4.out.win HO4.out.win (by omega) (by omega)).mono ?_; rintro e x3 ⟨he, hx3⟩; obtain rfl : e = .returned (.bool false) := he.trans (by rw [HEQ.out]); clear he; have HO5 := Lib.hid (HO4.out.below_ hx3); have HK5 := Lib.hid (HK4.out.below_ hx3); clear hx3)
              | (go_at_call 32; with_reducible refine (wequal_any b gw1 bc gw2 s sk lf lk x3 HO5.out.win HK5.out.win (by omega) (by omega)).mono ?_; rintro e x4 ⟨he, hx4⟩; obtain rfl : e = .returned (.bool false) := he.trans (by rw [HEQ'.out]); clear he; have HO6 := Lib.hid (HO5.out.below_ hx4); clear hx4))
            go_ret
            exact ⟨rfl, HO6.out.below⟩
          · have h3 : s = sk ∧ lf.length = lk.length ∧ lf.take k = lk.take k := by
              have h := HE2.out.out
              simp only [Bool.true_eq, Bool.and_eq_true, decide_eq_true_eq] at h
              exact ⟨h.1.1, h.1.2, h.2⟩
            have H3 := Lib.hid h3
            clear h3
            by_cases hlt2 : k < lf.length
            · have hlt3 : k < lk.length := by have := H3.out.2.1; omega
              obtain ⟨hg1, off1, hA1, hc1⟩ := HO2.out.rd.elem ofrc_len hlt2 rfl
              obtain ⟨hg2, off2, hA2, hc2⟩ := HK2.out.rd.elem ofrc_len hlt3 rfl
              have HC1 := Lib.hid hc1
              have HC2 := Lib.hid hc2
              have HG1 := Lib.hid hg1
              have HG2 := Lib.hid hg2
              have HA1 := Lib.hid hA1
              have HA2 := Lib.hid hA2
              clear hc1 hc2 hg1 hg2 hA1 hA2
              have hoe := fun w => run_eql_ofr w lf[k] lk[k]
              have HOE := Lib.hid hoe
              clear hoe
              go_wp2_with fail
              clear hm1 hn1
              refine wp_region_seq (nt := 159) (by kernel_rfl) [0,1,2,3,4,5,6,7,8,9,10] [11] Rb Rb.refl Rb.trans [] (by kernel_rfl) (by simp) rfl (by kernel_rfl) (by simp) trivial ?_
              (refine' Sq.det (E := _) (b := _) (by rfl) (by rfl) (by rfl) (fun w' hR hf => ?_) ?_ ?_; rotate_left 2; (· (go_simp; first | done | with_reducible rfl)); (· (simp only [Act.put, List.setIfInBounds_toArray, List.set_cons_zero, List.set_cons_succ]; first | done | rfl)))
              (refine' Sq.det (E := _) (b := _) (by rfl) (by rfl) (by rfl) (fun w' hR hf => ?_) ?_ ?_; rotate_left 2; (· (have hc := (HO2.out.below_ (below_undrew hR)).m1; rw [HA1.out] at hc; go_simp; first | done | with_reducible rfl)); (· (simp only [Act.put, List.setIfInBounds_toArray, List.set_cons_zero, List.set_cons_succ]; first | done | rfl)))
              (refine' Sq.det (E := _) (b := _) (by rfl) (by rfl) (by rfl) (fun w' hR hf => ?_) ?_ ?_; rotate_left 2; (· (go_simp; first | done | with_reducible rfl)); (· (simp only [Act.put, List.setIfInBounds_toArray, List.set_cons_zero, List.set_cons_succ]; first | done | rfl)))
              (refine' Sq.det (E := _) (b := _) (by rfl) (by rfl) (by rfl) (fun w' hR hf => ?_) ?_ ?_; rotate_left 2; (· (go_simp; first | done | with_reducible rfl)); (· (simp only [Act.put, List.setIfInBounds_toArray, List.set_cons_zero, List.set_cons_succ]; first | done | rfl)))
              (refine' Sq.det (E := _) (b := _) (by rfl) (by rfl) (by rfl) (fun w' hR hf => ?_) ?_ ?_; rotate_left 2; (· (refine exec_load_cells 72 _ gm1 (off1 + k * 34) (ofrc lf[k]) ?_ _ Try.underlying72 rfl (by rw [ofrc_len]; exact size72) (fun j u hu => ?_); (· kernel_rfl); exact ((below_undrew hR).cell (p := ⟨gm1, _, none⟩) HG1.out).trans (HC1.out j u hu))); (· (simp only [Act.put, List.setIfInBounds_toArray, List.set_cons_zero, List.set_cons_succ]; first | done | rfl)))
              (refine' Sq.det (E := _) (b := _) (by rfl) (by rfl) (by rfl) (fun w' hR hf => ?_) ?_ ?_; rotate_left 2; (· (go_simp; first | done | with_reducible rfl)); (· (simp only [Act.put, List.setIfInBounds_toArray, List.set_cons_zero, List.set_cons_succ]; first | done | rfl)))
              (refine' Sq.det (E := _) (b := _) (by rfl) (by rfl) (by rfl) (fun w' hR hf => ?_) ?_ ?_; rotate_left 2; (· (have hc := (HK2.out.below_ (below_undrew hR)).m1; rw [HA2.out] at hc; go_simp; first | done | with_reducible rfl)); (· (simp only [Act.put, List.setIfInBounds_toArray, List.set_cons_zero, List.set_cons_succ]; first | done | rfl)))
              (refine' Sq.det (E := _) (b := _) (by rfl) (by rfl) (by rfl) (fun w' hR hf => ?_) ?_ ?_; rotate_left 2; (· (go_simp; first | done | with_reducible rfl)); (· (simp only [Act.put, List.setIfInBounds_toArray, List.set_cons_zero, List.set_cons_succ]; first | done | rfl)))
              (refine' Sq.det (E := _) (b := _) (by rfl) (by rfl) (by rfl) (fun w' hR hf => ?_) ?_ ?_; rotate_left 2; (· (go_simp; first | done | with_reducible rfl)); (· (simp only [Act.put, List.setIfInBounds_toArray, List.set_cons_zero, List.set_cons_succ]; first | done | rfl)))
              (refine' Sq.det (E := _) (b := _) (by rfl) (by rfl) (by rfl) (fun w' hR hf => ?_) ?_ ?_; rotate_left 2; (· (refine exec_load_cells 72 _ gm2 (off2 + k * 34) (ofrc lk[k]) ?_ _ Try.underlying72 rfl (by rw [ofrc_len]; exact size72) (fun j u hu => ?_); (· kernel_rfl); exact ((below_undrew hR).cell (p := ⟨gm2, _, none⟩) HG2.out).trans (HC2.out j u hu))); (· (simp only [Act.put, List.setIfInBounds_toArray, List.set_cons_zero, List.set_cons_succ]; first | done | rfl)))
              (refine' Sq.det (E := _) (b := _) (by rfl) (by rfl) (by rfl) (fun w' hR hf => ?_) ?_ ?_; rotate_left 2; (· (have hq := HOE.out; go_simp; first | done | with_reducible rfl)); (· (simp only [Act.put, List.setIfInBounds_toArray, List.set_cons_zero, List.set_cons_succ]; first | done | rfl)))
              refine Sq.tail1 (by rfl) fun y2 hR _ => ?_
              have HKb := Lib.hid (HK2.out.below_ (below_undrew hR))
              have HOb := Lib.hid (HO2.out.below_ (below_undrew hR))
              clear hR
              go_wp2_with fail
              go_roundw
              case rel => exact ⟨k + 1, _, by omega, by go_num, rfl, Lib.hid (take_both H3.out hlt2 hlt3), HKb.out, HOb.out⟩
              case measure => simp [intOf]; omega
            · have HEQ : Hid ((decide (sk = s) && decide (lk = lf)) = true) := Lib.hid (by
                obtain ⟨h1, h2, h3⟩ := H3.out
                have := take_all2 (by omega) h2 h3
                simp [h1, this])
              have HEQ' : Hid ((decide (s = sk) && decide (lf = lk)) = true) := Lib.hid (by rw [← HEQ.out]; simp [eq_comm])
              go_wp2_with (first
                | (with_reducible refine at_dst 138 ?_; refine wpList_load_cells rfl 58 _ rfl w2.heap.size 0 [.int .i64 s, .slice Am lf.length cm] rfl _ Try.underlying58 rfl (size58' _ _) (fun j u hu => by rw [Nat.zero_add, HO2.out.m.cell, List.getElem?_toArray]; exact hu) ?_)
                | (go_at_call 34; with_reducible refine (same_any b gw1 gm1 cm Am s lf wr HO2.out.win HO2.out.rd (by omega) HOK.out HND.out hs1 hs2).mono ?_; rintro e x1 ⟨rfl, hx1⟩; have HO3 := Lib.hid (HO2.out.below_ hx1); have HK3 := Lib.hid (HK2.out.below_ hx1); clear hx1)
                | (with_reducible refine at_dst 142 ?_; refine wpList_wanted (by simp [Region.wanted, yielded]) fun K hK => wp_load_cells 58 _ rfl w7.heap.size 0 [.int .i64 sk, .slice An lk.length cn] rfl _ Try.underlying58 rfl (size58' _ _) (fun j u hu => by rw [Nat.zero_add, HK3.out.m.cell, List.getElem?_toArray]; exact hu) (hK _ _ ?_))
                | (go_at_call 34; with_reducible refine (same_any bc gw2 gm2 cn An sk lk x1 HK3.out.win HK3.out.rd (by omega) HK3.out.ok HK3.out.nd HK3.out.s1 HK3.out.s2).mono ?_; rintro e x2 ⟨rfl, hx2⟩; have HO4 := Lib.hid (HO3.out.below_ hx2); have HK4 := Lib.hid (HK3.out.below_ hx2); clear hx2)
                | (go_at_call 32; with_reducible refine (wequal_any bc gw2 b gw1 sk s lk lf x2 HK4.out.win HO4.out.win (by omega) (by omega)).mono ?_; rintro e x3 ⟨he, hx3⟩; obtain rfl : e = .returned (.bool true) := he.trans (by rw [HEQ.out]); clear he; have HO5 := Lib.hid (HO4.out.below_ hx3); have HK5 := Lib.hid (HK4.out.below_ hx3); clear hx3)
                | (go_at_call 32; with_reducible refine (wequal_any b gw1 bc gw2 s sk lf lk x3 HO5.out.win HK5.out.win (by omega) (by omega)).mono ?_; rintro e x4 ⟨he, hx4⟩; obtain rfl : e = .returned (.bool true) := he.trans (by rw [HEQ'.out]); clear he; have HO6 := Lib.hid (HO5.out.below_ hx4); clear hx4))
              go_ret
              exact ⟨rfl, HO6.out.below⟩
theorem wclonel_any (n : Int) (l lq : List Op') (g gq c cq : Nat) (A Aq : Option Addr) (w : World) (hr : Rd w g 34 A l.length (l.flatMap opc)) (hrq : Rd w gq 34 Aq lq.length (lq.flatMap opc)) (hl : l.length ≤ maxLen) (hlq : lq.length ≤ maxLen) :
    Calls Try.prog 9 #[.int .i64 n, .slice A l.length c, .slice Aq lq.length cq] w fun e w' => e = .returned (.bool true) ∧ Below w.heap.size w w' := by
  by_cases h : l.length ≤ 100 ∧ lq.length ≤ 100
  · exact clone_walk n l lq g gq c cq A Aq w hr hrq h.1 h.2
  · exact clone_long n l lq c cq A Aq w hl hlq (by omega)
end Go.Proofs.Ytbcejdmgdgghfaa
