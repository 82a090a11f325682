/- WindowAnswers: the walk and its plain law. Condition: at most 100 operations, as the statement has it. -/
import Derived.Test.YtbcejdmgdgghfaaWx
namespace Go.Proofs.Ytbcejdmgdgghfaa
set_option linter.unusedSimpArgs false
set_option linter.unusedVariables false
set_option linter.unnecessarySimpa false
open Go.RowKit

theorem find_set {l : List Ofr} {i : Id} {k : Nat} (hk : k < l.length) (h3 : l.find? (isId i) = some l[k]) (h4 : l.findIdx (isId i) = k) (o : Int) : (l.set k { l[k] with outcome := o }).find? (isId i) = some { l[k] with outcome := o } := by
  have hp : isId i l[k] = true := List.find?_some h3
  have key : ∀ (l : List Ofr) (k : Nat) (hk : k < l.length) (y : Ofr), isId i y = true → l.findIdx (isId i) = k → (l.set k y).find? (isId i) = some y := by
    intro l
    induction l with
    | nil => intro k hk; simp at hk
    | cons x l ih =>
      intro k hk y hy hf
      rw [List.findIdx_cons] at hf
      cases hx : isId i x with
      | true =>
        simp [hx] at hf
        subst hf
        simp [hy]
      | false =>
        simp [hx] at hf
        subst hf
        simp only [List.set_cons_succ, List.find?_cons, hx]
        exact ih _ (by simpa using hk) y hy rfl
  exact key l k hk _ (by simpa [isId] using hp) h4

theorem blk_ne_win {w : World} {p b g : Nat} {t : TypeId} {cs : Array Value} {s : Int} {l : List Ofr} (hp : Blk w p t cs) (h : Win w b s l g) (ht : t ≠ 78) : some p ≠ some b := by
  obtain ⟨A, c, h1, _, _⟩ := h
  simpa using hp.ne_ h1 ht
theorem ansL_len (l : List Ofr) (i : Id) (o : Int) : (ansL l i o).length = l.length := by
  unfold ansL
  split
  · rfl
  · split
    · rfl
    · split <;> simp
/-- a new window keeps away from an old block -/
theorem win_away {w w' : World} {b b' g' : Nat} {s : Int} {l : List Ofr} (hb : b < w.heap.size) (h : Win w' b' s l g') (hb' : w.heap.size ≤ b') (hg' : 0 < l.length → w.heap.size ≤ g') : ∃ g, Win w' b' s l g ∧ b' ≠ b ∧ g ≠ b := by
  rcases Nat.eq_zero_or_pos l.length with h0 | h0
  · have : l = [] := List.eq_nil_of_length_eq_zero h0
    subst this
    exact ⟨b + 1, h.nil_at, by omega, by omega⟩
  · exact ⟨g', h, by omega, by have := hg' h0; omega⟩

set_option maxHeartbeats 2000000 in
theorem answers_long (n : Int) (l : List Op') (id : Id) (o : Int) (g c : Nat) (A : Option Addr) (w : World) (hl : l.length ≤ maxLen) (h100 : 100 < l.length) :
    Calls Try.prog 8 #[.int .i64 n, .slice A l.length c, .agg (idc id).toArray, .int .i64 o] w fun e w' => e = .returned (.bool true) ∧ Below w.heap.size w w' := by
  have HB0 := Lib.hid (bnew w (.cells (idc id).toArray 37))
  go_enter Try.func8, Try.ntmps8
  go_wp2_with (first
    | (go_at_call 11; with_reducible refine (known_any (w.alloc (.cells (idc id).toArray 37))).mono ?_; rintro e w1 ⟨rfl, hb1⟩; have HB1 := Lib.hid (HB0.out.trans' hb1); clear hb1)
    | (go_at_call 11; with_reducible refine (known_any w1).mono ?_; rintro e w2 ⟨rfl, hb2⟩; have HB2 := Lib.hid (HB1.out.trans' hb2); clear hb2))
  go_ret
  exact ⟨rfl, HB2.out⟩


set_option maxHeartbeats 4000000 in
theorem answers_walk (n : Int) (l : List Op') (id : Id) (o : Int) (g c : Nat) (A : Option Addr) (w : World) (hr : Rd w g 34 A l.length (l.flatMap opc)) (h100 : l.length ≤ 100) :
    Calls Try.prog 8 #[.int .i64 n, .slice A l.length c, .agg (idc id).toArray, .int .i64 o] w fun e w' => e = .returned (.bool true) ∧ Below w.heap.size w w' := by
  have HR := Lib.hid hr
  have HB0 := Lib.hid (bnew w (.cells (idc id).toArray 37))
  have HP0 := Lib.hid (Blk.new w 37 (idc id).toArray)
  clear hr
  go_enter Try.func8, Try.ntmps8
  go_wp2_with (first
    | (go_at_call 11; with_reducible refine (known_any (w.alloc (.cells (idc id).toArray 37))).mono ?_; rintro e w1 ⟨rfl, hb1⟩; have HP1 := Lib.hid (HP0.out.below hb1); have HB1 := Lib.hid (HB0.out.trans' hb1); clear hb1)
    | (go_at_call 24; with_reducible refine (build_any n l g c A w1 (HR.out.below HB1.out) h100).mono ?_; intro e w2 hbp; unfold BPost at hbp; obtain ⟨b, gw, gm, s, lf, Am, cm, he, hw2, hgb, hok, hnd, hlf, hrm, hcm, hgmb, hs1, hs2, hlb, hb2⟩ := hbp; subst he; have HW2 := Lib.hid hw2; have HOK := Lib.hid hok; have HND := Lib.hid hnd; have HRM := Lib.hid hrm; have hbb := HB1.out.trans' hb2; have HBL := Lib.hid (Nat.le_trans HB1.out.size hlb); have hblt := hw2.cells.1; have HB2 := Lib.hid hbb; have HB12 := Lib.hid hb2; clear hw2 hok hnd hrm hb2 hbb hlb)
    | (with_reducible refine at_dst 10 ?_; refine wpList_alloc_blk rfl 58 rfl z58 [.int .i64 0, .slice none 0 0] rfl info58z ?_; intro w3 hm3 hg3 hz3; have HM3 := Lib.hid hm3; have HW3 := Lib.hid (HW2.out.below hg3.toBelow); have HRM3 := Lib.hid (HRM.out.below hg3.toBelow); have HB3 := Lib.hid (HB2.out.trans' hg3.toBelow); have HG3 := Lib.hid hg3; clear hm3 hg3 hz3)
    | (with_reducible refine at_store 58 10 ?_; refine wpList_store_blk rfl 58 _ _ rfl w2.heap.size 0 58 [.int .i64 0, .slice none 0 0] [.int .i64 s, .slice Am lf.length cm] HM3.out rfl rfl (size58' _ _) (by simp) (by simp [Value.oneCell']) ?_; intro w4 hn4 hg4 _; have HD4 : Hid (DS w b gw w2.heap.size gm s lf s lf Am cm w4) := Lib.hid ⟨win_grown58 HW3.out hgb HM3.out hg4, hgb, by simpa using hn4, rd_grown58 HRM3.out HM3.out hg4, hcm, hgmb, HBL.out, HB3.out.grown hg4 HB3.out.size (fun x hx => by have := HB2.out.size; simp at hx; omega)⟩; have HB14 : Hid (Below w1.heap.size w1 w4) := Lib.hid (HB12.out.trans' ((HG3.out.toBelow).grown hg4 HG3.out.size (fun x hx => by simp at hx; omega))); clear hn4 hg4)
    | (with_reducible refine at_dst 37 ?_; refine wpList_load_cells rfl 37 _ rfl w.heap.size 0 (idc id) rfl _ Try.underlying37 rfl (sz_id _) (fun j u hu => by rw [Nat.zero_add, (HP1.out.below HB14.out).cell, List.getElem?_toArray]; exact hu) ?_)
    )
  have HP4 := Lib.hid (HP1.out.below HB14.out)
  rcases idxI_spec (isId id) lf 0 with ⟨h1, h2⟩ | ⟨k, hk, h1, h2, h3, h4⟩
  · have HO1 : Hid (outcomeOf lf id = (0, false)) := Lib.hid (by simp [outcomeOf, h2])
    have HIX : Hid (idxI (isId id) lf 0 = -1) := Lib.hid h1
    have HE : Hid (ansE lf id o = 8) := Lib.hid (by simp [ansE, h2])
    obtain ⟨l2, hl2⟩ : ∃ l2, l2 = lf := ⟨_, rfl⟩
    have HL : Hid (ansL lf id o = l2) := Lib.hid (by simp [ansL, h2, hl2])
    have HO2 : Hid (outcomeOf l2 id = (0, false)) := Lib.hid (by rw [hl2]; exact HO1.out)
    have HEQ : Hid (l2 = lf) := Lib.hid hl2
    clear h1 h2 hl2
    go_wp2_with (first
      | (with_reducible refine at_dst 37 ?_; refine wpList_load_cells rfl 37 _ rfl w.heap.size 0 (idc id) rfl _ Try.underlying37 rfl (sz_id _) (fun j u hu => by rw [Nat.zero_add, HP4.out.cell, List.getElem?_toArray]; exact hu) ?_)
      | (go_at_call 28; with_reducible refine (outcome_any b gw s lf id w4 HD4.out.win (by omega)).mono ?_; rintro e w5 ⟨he, hb5⟩; rw [HO1.out] at he; subst he; have HD5 := Lib.hid (HD4.out.below_ hb5); have HP5 := Lib.hid (HP4.out.below hb5); clear hb5)
      | (go_at_call 29; with_reducible refine (wclone_any b gw s lf w5 HD5.out.win (by omega)).mono ?_; rintro e w6 ⟨bc, gc, rfl, hb6, hwc, hbc, hgc, hgbc⟩; have hcl := win_away HD5.out.win.cells.1 hwc hbc hgc; obtain ⟨gd, hwd, hgd⟩ := hcl; have HWC := Lib.hid hwd; have HNB := Lib.hid hgd; have HD6 := Lib.hid (HD5.out.below_ hb6); have HP6 := Lib.hid (HP5.out.below hb6); clear hb6 hwc hbc hgc hgbc hwd hgd)
      | (with_reducible refine at_dst 44 ?_; refine wpList_load_cells rfl 37 _ rfl w.heap.size 0 (idc id) rfl _ Try.underlying37 rfl (sz_id _) (fun j u hu => by rw [Nat.zero_add, HP6.out.cell, List.getElem?_toArray]; exact hu) ?_)
      | (go_at_call 17; with_reducible refine (answer_any b gw s lf id o w6 HD6.out.win (by omega) HD6.out.gwb HOK.out).mono ?_; rintro e w7 ⟨he, hg7, g7, hw7, hgb7⟩; rw [HE.out] at he; rw [HL.out] at hw7; subst he; have HD7 := Lib.hid (HD6.out.step hg7 hw7 hgb7); have HWC7 := Lib.hid (HWC.out.grown hg7 (by simpa using HNB.out.1) (by simpa using HNB.out.2)); have HP7 := Lib.hid (HP6.out.grown hg7 (blk_ne_win HP6.out HD6.out.win (by decide))); clear hg7 hw7 hgb7)
      | (with_reducible refine at_dst 49 ?_; refine wpList_load_cells rfl 37 _ rfl w.heap.size 0 (idc id) rfl _ Try.underlying37 rfl (sz_id _) (fun j u hu => by rw [Nat.zero_add, HP7.out.cell, List.getElem?_toArray]; exact hu) ?_)
      | (go_at_call 28; with_reducible refine (outcome_any b g7 s l2 id w7 HD7.out.win (by rw [← HL.out, ansL_len]; omega)).mono ?_; rintro e w8 ⟨he, hb8⟩; rw [HO2.out] at he; subst he; have HD8 := Lib.hid (HD7.out.below_ hb8); have HP8 := Lib.hid (HP7.out.below hb8); have HWC8 := Lib.hid (HWC7.out.below hb8); clear hb8)
      | (with_reducible refine at_dst 54 ?_; refine wpList_load_cells rfl 58 _ rfl w2.heap.size 0 [.int .i64 s, .slice Am lf.length cm] rfl _ Try.underlying58 rfl (size58' _ _) (fun j u hu => by rw [Nat.zero_add, HD8.out.m.cell, List.getElem?_toArray]; exact hu) ?_)
      | (with_reducible refine at_dst 55 ?_; refine wpList_load_cells rfl 37 _ rfl w.heap.size 0 (idc id) rfl _ Try.underlying37 rfl (sz_id _) (fun j u hu => by rw [Nat.zero_add, HP8.out.cell, List.getElem?_toArray]; exact hu) ?_)
      | (go_at_call 30; with_reducible refine (mfind_any gm cm Am s lf id w8 HD8.out.rd (by omega)).mono ?_; rintro e w9 ⟨he, hb9⟩; rw [HIX.out] at he; subst he; have HD9 := Lib.hid (HD8.out.below_ hb9); have HWC9 := Lib.hid (HWC8.out.below hb9); clear hb9)
      | (go_at_call 31; with_reducible refine (possible_any _ o w9).mono ?_; rintro e w' ⟨he, rfl⟩; rw [HPB.out] at he; subst he)
      | (go_at_call 32; with_reducible refine (wequal_any b g7 bc gd s s l2 lf w9 HD9.out.win HWC9.out (by rw [← HL.out, ansL_len]; omega) (by omega)).mono ?_; rintro e w10 ⟨he, hb10⟩; obtain rfl : e = .returned (.bool true) := he.trans (by simp [HEQ.out]); clear he; have HD10 := Lib.hid (HD9.out.below_ hb10); clear hb10))
    go_ret
    exact ⟨rfl, HD10.out.below⟩
  · rw [Int.zero_add] at h1
    have HO1 : Hid (outcomeOf lf id = (lf[k].outcome, true)) := Lib.hid (by simp [outcomeOf, h3])
    have HIX := Lib.hid h1
    by_cases ho : o < 1 ∨ 5 < o
    · have HE : Hid (ansE lf id o = 11) := Lib.hid (by simp [ansE, h3, ho])
      obtain ⟨l2, hl2⟩ : ∃ l2, l2 = lf := ⟨_, rfl⟩
      have HL : Hid (ansL lf id o = l2) := Lib.hid (by simp [ansL, h3, hl2, ho])
      have HO2 : Hid (outcomeOf l2 id = (lf[k].outcome, true)) := Lib.hid (by rw [hl2]; exact HO1.out)
      have HEQ : Hid (l2 = lf) := Lib.hid hl2
      clear h1 h2 h3 h4 hl2
      by_cases ho1 : 1 ≤ o
      · have ho5 : 5 < o := by omega
        clear ho
        go_wp2_with (first
          | (with_reducible refine at_dst 37 ?_; refine wpList_load_cells rfl 37 _ rfl w.heap.size 0 (idc id) rfl _ Try.underlying37 rfl (sz_id _) (fun j u hu => by rw [Nat.zero_add, HP4.out.cell, List.getElem?_toArray]; exact hu) ?_)
          | (go_at_call 28; with_reducible refine (outcome_any b gw s lf id w4 HD4.out.win (by omega)).mono ?_; rintro e w5 ⟨he, hb5⟩; rw [HO1.out] at he; subst he; have HD5 := Lib.hid (HD4.out.below_ hb5); have HP5 := Lib.hid (HP4.out.below hb5); clear hb5)
          | (go_at_call 29; with_reducible refine (wclone_any b gw s lf w5 HD5.out.win (by omega)).mono ?_; rintro e w6 ⟨bc, gc, rfl, hb6, hwc, hbc, hgc, hgbc⟩; have hcl := win_away HD5.out.win.cells.1 hwc hbc hgc; obtain ⟨gd, hwd, hgd⟩ := hcl; have HWC := Lib.hid hwd; have HNB := Lib.hid hgd; have HD6 := Lib.hid (HD5.out.below_ hb6); have HP6 := Lib.hid (HP5.out.below hb6); clear hb6 hwc hbc hgc hgbc hwd hgd)
          | (with_reducible refine at_dst 44 ?_; refine wpList_load_cells rfl 37 _ rfl w.heap.size 0 (idc id) rfl _ Try.underlying37 rfl (sz_id _) (fun j u hu => by rw [Nat.zero_add, HP6.out.cell, List.getElem?_toArray]; exact hu) ?_)
          | (go_at_call 17; with_reducible refine (answer_any b gw s lf id o w6 HD6.out.win (by omega) HD6.out.gwb HOK.out).mono ?_; rintro e w7 ⟨he, hg7, g7, hw7, hgb7⟩; rw [HE.out] at he; rw [HL.out] at hw7; subst he; have HD7 := Lib.hid (HD6.out.step hg7 hw7 hgb7); have HWC7 := Lib.hid (HWC.out.grown hg7 (by simpa using HNB.out.1) (by simpa using HNB.out.2)); have HP7 := Lib.hid (HP6.out.grown hg7 (blk_ne_win HP6.out HD6.out.win (by decide))); clear hg7 hw7 hgb7)
          | (with_reducible refine at_dst 49 ?_; refine wpList_load_cells rfl 37 _ rfl w.heap.size 0 (idc id) rfl _ Try.underlying37 rfl (sz_id _) (fun j u hu => by rw [Nat.zero_add, HP7.out.cell, List.getElem?_toArray]; exact hu) ?_)
          | (go_at_call 28; with_reducible refine (outcome_any b g7 s l2 id w7 HD7.out.win (by rw [← HL.out, ansL_len]; omega)).mono ?_; rintro e w8 ⟨he, hb8⟩; rw [HO2.out] at he; subst he; have HD8 := Lib.hid (HD7.out.below_ hb8); have HP8 := Lib.hid (HP7.out.below hb8); have HWC8 := Lib.hid (HWC7.out.below hb8); clear hb8)
          | (with_reducible refine at_dst 54 ?_; refine wpList_load_cells rfl 58 _ rfl w2.heap.size 0 [.int .i64 s, .slice Am lf.length cm] rfl _ Try.underlying58 rfl (size58' _ _) (fun j u hu => by rw [Nat.zero_add, HD8.out.m.cell, List.getElem?_toArray]; exact hu) ?_)
          | (with_reducible refine at_dst 55 ?_; refine wpList_load_cells rfl 37 _ rfl w.heap.size 0 (idc id) rfl _ Try.underlying37 rfl (sz_id _) (fun j u hu => by rw [Nat.zero_add, HP8.out.cell, List.getElem?_toArray]; exact hu) ?_)
          | (go_at_call 30; with_reducible refine (mfind_any gm cm Am s lf id w8 HD8.out.rd (by omega)).mono ?_; rintro e w9 ⟨he, hb9⟩; rw [HIX.out] at he; subst he; have HD9 := Lib.hid (HD8.out.below_ hb9); have HWC9 := Lib.hid (HWC8.out.below hb9); clear hb9)
          | (go_at_call 31; with_reducible refine (possible_any _ o w9).mono ?_; rintro e w' ⟨he, rfl⟩; rw [HPB.out] at he; subst he)
          | (go_at_call 32; with_reducible refine (wequal_any b g7 bc gd s s l2 lf w9 HD9.out.win HWC9.out (by rw [← HL.out, ansL_len]; omega) (by omega)).mono ?_; rintro e w10 ⟨he, hb10⟩; obtain rfl : e = .returned (.bool true) := he.trans (by simp [HEQ.out]); clear he; have HD10 := Lib.hid (HD9.out.below_ hb10); clear hb10))
        go_ret
        exact ⟨rfl, HD10.out.below⟩
      · clear ho
        go_wp2_with (first
          | (with_reducible refine at_dst 37 ?_; refine wpList_load_cells rfl 37 _ rfl w.heap.size 0 (idc id) rfl _ Try.underlying37 rfl (sz_id _) (fun j u hu => by rw [Nat.zero_add, HP4.out.cell, List.getElem?_toArray]; exact hu) ?_)
          | (go_at_call 28; with_reducible refine (outcome_any b gw s lf id w4 HD4.out.win (by omega)).mono ?_; rintro e w5 ⟨he, hb5⟩; rw [HO1.out] at he; subst he; have HD5 := Lib.hid (HD4.out.below_ hb5); have HP5 := Lib.hid (HP4.out.below hb5); clear hb5)
          | (go_at_call 29; with_reducible refine (wclone_any b gw s lf w5 HD5.out.win (by omega)).mono ?_; rintro e w6 ⟨bc, gc, rfl, hb6, hwc, hbc, hgc, hgbc⟩; have hcl := win_away HD5.out.win.cells.1 hwc hbc hgc; obtain ⟨gd, hwd, hgd⟩ := hcl; have HWC := Lib.hid hwd; have HNB := Lib.hid hgd; have HD6 := Lib.hid (HD5.out.below_ hb6); have HP6 := Lib.hid (HP5.out.below hb6); clear hb6 hwc hbc hgc hgbc hwd hgd)
          | (with_reducible refine at_dst 44 ?_; refine wpList_load_cells rfl 37 _ rfl w.heap.size 0 (idc id) rfl _ Try.underlying37 rfl (sz_id _) (fun j u hu => by rw [Nat.zero_add, HP6.out.cell, List.getElem?_toArray]; exact hu) ?_)
          | (go_at_call 17; with_reducible refine (answer_any b gw s lf id o w6 HD6.out.win (by omega) HD6.out.gwb HOK.out).mono ?_; rintro e w7 ⟨he, hg7, g7, hw7, hgb7⟩; rw [HE.out] at he; rw [HL.out] at hw7; subst he; have HD7 := Lib.hid (HD6.out.step hg7 hw7 hgb7); have HWC7 := Lib.hid (HWC.out.grown hg7 (by simpa using HNB.out.1) (by simpa using HNB.out.2)); have HP7 := Lib.hid (HP6.out.grown hg7 (blk_ne_win HP6.out HD6.out.win (by decide))); clear hg7 hw7 hgb7)
          | (with_reducible refine at_dst 49 ?_; refine wpList_load_cells rfl 37 _ rfl w.heap.size 0 (idc id) rfl _ Try.underlying37 rfl (sz_id _) (fun j u hu => by rw [Nat.zero_add, HP7.out.cell, List.getElem?_toArray]; exact hu) ?_)
          | (go_at_call 28; with_reducible refine (outcome_any b g7 s l2 id w7 HD7.out.win (by rw [← HL.out, ansL_len]; omega)).mono ?_; rintro e w8 ⟨he, hb8⟩; rw [HO2.out] at he; subst he; have HD8 := Lib.hid (HD7.out.below_ hb8); have HP8 := Lib.hid (HP7.out.below hb8); have HWC8 := Lib.hid (HWC7.out.below hb8); clear hb8)
          | (with_reducible refine at_dst 54 ?_; refine wpList_load_cells rfl 58 _ rfl w2.heap.size 0 [.int .i64 s, .slice Am lf.length cm] rfl _ Try.underlying58 rfl (size58' _ _) (fun j u hu => by rw [Nat.zero_add, HD8.out.m.cell, List.getElem?_toArray]; exact hu) ?_)
          | (with_reducible refine at_dst 55 ?_; refine wpList_load_cells rfl 37 _ rfl w.heap.size 0 (idc id) rfl _ Try.underlying37 rfl (sz_id _) (fun j u hu => by rw [Nat.zero_add, HP8.out.cell, List.getElem?_toArray]; exact hu) ?_)
          | (go_at_call 30; with_reducible refine (mfind_any gm cm Am s lf id w8 HD8.out.rd (by omega)).mono ?_; rintro e w9 ⟨he, hb9⟩; rw [HIX.out] at he; subst he; have HD9 := Lib.hid (HD8.out.below_ hb9); have HWC9 := Lib.hid (HWC8.out.below hb9); clear hb9)
          | (go_at_call 31; with_reducible refine (possible_any _ o w9).mono ?_; rintro e w' ⟨he, rfl⟩; rw [HPB.out] at he; subst he)
          | (go_at_call 32; with_reducible refine (wequal_any b g7 bc gd s s l2 lf w9 HD9.out.win HWC9.out (by rw [← HL.out, ansL_len]; omega) (by omega)).mono ?_; rintro e w10 ⟨he, hb10⟩; obtain rfl : e = .returned (.bool true) := he.trans (by simp [HEQ.out]); clear he; have HD10 := Lib.hid (HD9.out.below_ hb10); clear hb10))
        go_ret
        exact ⟨rfl, HD10.out.below⟩
    · have ho1 : 1 ≤ o := by omega
      have ho5 : o ≤ 5 := by omega
      cases hp : possB lf[k].outcome o
      · have HPB := Lib.hid hp
        have HE : Hid (ansE lf id o = 10) := Lib.hid (by simp [ansE, h3, ho, hp])
        obtain ⟨l2, hl2⟩ : ∃ l2, l2 = lf := ⟨_, rfl⟩
        have HL : Hid (ansL lf id o = l2) := Lib.hid (by simp [ansL, h3, hl2, ho, hp])
        have HO2 : Hid (outcomeOf l2 id = (lf[k].outcome, true)) := Lib.hid (by rw [hl2]; exact HO1.out)
        have HEQ : Hid (l2 = lf) := Lib.hid hl2
        clear h1 h2 h3 h4 hl2 hp ho
        go_wp2_with (first
          | (with_reducible refine at_dst 37 ?_; refine wpList_load_cells rfl 37 _ rfl w.heap.size 0 (idc id) rfl _ Try.underlying37 rfl (sz_id _) (fun j u hu => by rw [Nat.zero_add, HP4.out.cell, List.getElem?_toArray]; exact hu) ?_)
          | (go_at_call 28; with_reducible refine (outcome_any b gw s lf id w4 HD4.out.win (by omega)).mono ?_; rintro e w5 ⟨he, hb5⟩; rw [HO1.out] at he; subst he; have HD5 := Lib.hid (HD4.out.below_ hb5); have HP5 := Lib.hid (HP4.out.below hb5); clear hb5)
          | (go_at_call 29; with_reducible refine (wclone_any b gw s lf w5 HD5.out.win (by omega)).mono ?_; rintro e w6 ⟨bc, gc, rfl, hb6, hwc, hbc, hgc, hgbc⟩; have hcl := win_away HD5.out.win.cells.1 hwc hbc hgc; obtain ⟨gd, hwd, hgd⟩ := hcl; have HWC := Lib.hid hwd; have HNB := Lib.hid hgd; have HD6 := Lib.hid (HD5.out.below_ hb6); have HP6 := Lib.hid (HP5.out.below hb6); clear hb6 hwc hbc hgc hgbc hwd hgd)
          | (with_reducible refine at_dst 44 ?_; refine wpList_load_cells rfl 37 _ rfl w.heap.size 0 (idc id) rfl _ Try.underlying37 rfl (sz_id _) (fun j u hu => by rw [Nat.zero_add, HP6.out.cell, List.getElem?_toArray]; exact hu) ?_)
          | (go_at_call 17; with_reducible refine (answer_any b gw s lf id o w6 HD6.out.win (by omega) HD6.out.gwb HOK.out).mono ?_; rintro e w7 ⟨he, hg7, g7, hw7, hgb7⟩; rw [HE.out] at he; rw [HL.out] at hw7; subst he; have HD7 := Lib.hid (HD6.out.step hg7 hw7 hgb7); have HWC7 := Lib.hid (HWC.out.grown hg7 (by simpa using HNB.out.1) (by simpa using HNB.out.2)); have HP7 := Lib.hid (HP6.out.grown hg7 (blk_ne_win HP6.out HD6.out.win (by decide))); clear hg7 hw7 hgb7)
          | (with_reducible refine at_dst 49 ?_; refine wpList_load_cells rfl 37 _ rfl w.heap.size 0 (idc id) rfl _ Try.underlying37 rfl (sz_id _) (fun j u hu => by rw [Nat.zero_add, HP7.out.cell, List.getElem?_toArray]; exact hu) ?_)
          | (go_at_call 28; with_reducible refine (outcome_any b g7 s l2 id w7 HD7.out.win (by rw [← HL.out, ansL_len]; omega)).mono ?_; rintro e w8 ⟨he, hb8⟩; rw [HO2.out] at he; subst he; have HD8 := Lib.hid (HD7.out.below_ hb8); have HP8 := Lib.hid (HP7.out.below hb8); have HWC8 := Lib.hid (HWC7.out.below hb8); clear hb8)
          | (with_reducible refine at_dst 54 ?_; refine wpList_load_cells rfl 58 _ rfl w2.heap.size 0 [.int .i64 s, .slice Am lf.length cm] rfl _ Try.underlying58 rfl (size58' _ _) (fun j u hu => by rw [Nat.zero_add, HD8.out.m.cell, List.getElem?_toArray]; exact hu) ?_)
          | (with_reducible refine at_dst 55 ?_; refine wpList_load_cells rfl 37 _ rfl w.heap.size 0 (idc id) rfl _ Try.underlying37 rfl (sz_id _) (fun j u hu => by rw [Nat.zero_add, HP8.out.cell, List.getElem?_toArray]; exact hu) ?_)
          | (go_at_call 30; with_reducible refine (mfind_any gm cm Am s lf id w8 HD8.out.rd (by omega)).mono ?_; rintro e w9 ⟨he, hb9⟩; rw [HIX.out] at he; subst he; have HD9 := Lib.hid (HD8.out.below_ hb9); have HWC9 := Lib.hid (HWC8.out.below hb9); clear hb9)
          | (go_at_call 31; with_reducible refine (possible_any _ o w9).mono ?_; rintro e w' ⟨he, rfl⟩; rw [HPB.out] at he; subst he)
          | (go_at_call 32; with_reducible refine (wequal_any b g7 bc gd s s l2 lf w9 HD9.out.win HWC9.out (by rw [← HL.out, ansL_len]; omega) (by omega)).mono ?_; rintro e w10 ⟨he, hb10⟩; obtain rfl : e = .returned (.bool true) := he.trans (by simp [HEQ.out]); clear he; have HD10 := Lib.hid (HD9.out.below_ hb10); clear hb10))
        go_ret
        exact ⟨rfl, HD10.out.below⟩
      · have HPB := Lib.hid hp
        have HE : Hid (ansE lf id o = 0) := Lib.hid (by simp [ansE, h3, ho, hp])
        obtain ⟨l2, hl2⟩ : ∃ l2, l2 = lf.set k { lf[k] with outcome := o } := ⟨_, rfl⟩
        have HL : Hid (ansL lf id o = l2) := Lib.hid (by simp [ansL, h3, h4, hl2, ho, hp])
        have HO2 : Hid (outcomeOf l2 id = (o, true)) := Lib.hid (by rw [hl2]; simp [outcomeOf, find_set hk h3 h4])
        have HEQ : Hid (True) := Lib.hid trivial
        clear h1 h2 h3 h4 hl2 hp ho
        go_wp2_with (first
          | (with_reducible refine at_dst 37 ?_; refine wpList_load_cells rfl 37 _ rfl w.heap.size 0 (idc id) rfl _ Try.underlying37 rfl (sz_id _) (fun j u hu => by rw [Nat.zero_add, HP4.out.cell, List.getElem?_toArray]; exact hu) ?_)
          | (go_at_call 28; with_reducible refine (outcome_any b gw s lf id w4 HD4.out.win (by omega)).mono ?_; rintro e w5 ⟨he, hb5⟩; rw [HO1.out] at he; subst he; have HD5 := Lib.hid (HD4.out.below_ hb5); have HP5 := Lib.hid (HP4.out.below hb5); clear hb5)
          | (go_at_call 29; with_reducible refine (wclone_any b gw s lf w5 HD5.out.win (by omega)).mono ?_; rintro e w6 ⟨bc, gc, rfl, hb6, hwc, hbc, hgc, hgbc⟩; have hcl := win_away HD5.out.win.cells.1 hwc hbc hgc; obtain ⟨gd, hwd, hgd⟩ := hcl; have HWC := Lib.hid hwd; have HNB := Lib.hid hgd; have HD6 := Lib.hid (HD5.out.below_ hb6); have HP6 := Lib.hid (HP5.out.below hb6); clear hb6 hwc hbc hgc hgbc hwd hgd)
          | (with_reducible refine at_dst 44 ?_; refine wpList_load_cells rfl 37 _ rfl w.heap.size 0 (idc id) rfl _ Try.underlying37 rfl (sz_id _) (fun j u hu => by rw [Nat.zero_add, HP6.out.cell, List.getElem?_toArray]; exact hu) ?_)
          | (go_at_call 17; with_reducible refine (answer_any b gw s lf id o w6 HD6.out.win (by omega) HD6.out.gwb HOK.out).mono ?_; rintro e w7 ⟨he, hg7, g7, hw7, hgb7⟩; rw [HE.out] at he; rw [HL.out] at hw7; subst he; have HD7 := Lib.hid (HD6.out.step hg7 hw7 hgb7); have HWC7 := Lib.hid (HWC.out.grown hg7 (by simpa using HNB.out.1) (by simpa using HNB.out.2)); have HP7 := Lib.hid (HP6.out.grown hg7 (blk_ne_win HP6.out HD6.out.win (by decide))); clear hg7 hw7 hgb7)
          | (with_reducible refine at_dst 49 ?_; refine wpList_load_cells rfl 37 _ rfl w.heap.size 0 (idc id) rfl _ Try.underlying37 rfl (sz_id _) (fun j u hu => by rw [Nat.zero_add, HP7.out.cell, List.getElem?_toArray]; exact hu) ?_)
          | (go_at_call 28; with_reducible refine (outcome_any b g7 s l2 id w7 HD7.out.win (by rw [← HL.out, ansL_len]; omega)).mono ?_; rintro e w8 ⟨he, hb8⟩; rw [HO2.out] at he; subst he; have HD8 := Lib.hid (HD7.out.below_ hb8); have HP8 := Lib.hid (HP7.out.below hb8); have HWC8 := Lib.hid (HWC7.out.below hb8); clear hb8)
          | (with_reducible refine at_dst 54 ?_; refine wpList_load_cells rfl 58 _ rfl w2.heap.size 0 [.int .i64 s, .slice Am lf.length cm] rfl _ Try.underlying58 rfl (size58' _ _) (fun j u hu => by rw [Nat.zero_add, HD8.out.m.cell, List.getElem?_toArray]; exact hu) ?_)
          | (with_reducible refine at_dst 55 ?_; refine wpList_load_cells rfl 37 _ rfl w.heap.size 0 (idc id) rfl _ Try.underlying37 rfl (sz_id _) (fun j u hu => by rw [Nat.zero_add, HP8.out.cell, List.getElem?_toArray]; exact hu) ?_)
          | (go_at_call 30; with_reducible refine (mfind_any gm cm Am s lf id w8 HD8.out.rd (by omega)).mono ?_; rintro e w9 ⟨he, hb9⟩; rw [HIX.out] at he; subst he; have HD9 := Lib.hid (HD8.out.below_ hb9); have HWC9 := Lib.hid (HWC8.out.below hb9); clear hb9)
          | (go_at_call 31; with_reducible refine (possible_any _ o w9).mono ?_; rintro e w' ⟨he, rfl⟩; rw [HPB.out] at he; subst he)
          | (go_at_call 32; with_reducible refine (wequal_any b g7 bc gd s s l2 lf w9 HD9.out.win HWC9.out (by rw [← HL.out, ansL_len]; omega) (by omega)).mono ?_; rintro e w10 ⟨he, hb10⟩; obtain rfl : e = .returned (.bool true) := he.trans (by simp [HEQ.out]); clear he; have HD10 := Lib.hid (HD9.out.below_ hb10); clear hb10))
        go_ret
        exact ⟨rfl, HD9.out.below⟩
theorem answers_any (n : Int) (l : List Op') (id : Id) (o : Int) (g c : Nat) (A : Option Addr) (w : World) (hr : Rd w g 34 A l.length (l.flatMap opc)) (hl : l.length ≤ maxLen) :
    Calls Try.prog 8 #[.int .i64 n, .slice A l.length c, .agg (idc id).toArray, .int .i64 o] w fun e w' => e = .returned (.bool true) ∧ Below w.heap.size w w' := by
  by_cases h : l.length ≤ 100
  · exact answers_walk n l id o g c A w hr h
  · exact answers_long n l id o g c A w hl (by omega)
end Go.Proofs.Ytbcejdmgdgghfaa
