/- WindowDrop: the walk and its plain law. Condition: at most 100 operations, as the statement has it. -/
import Derived.Test.YtbcejdmgdgghfaaWv
namespace Go.Proofs.Ytbcejdmgdgghfaa
set_option linter.unusedSimpArgs false
set_option linter.unusedVariables false
set_option linter.unnecessarySimpa false
open Go.RowKit

theorem keepL_final (l : List Ofr) : ∀ o ∈ keepL l, outB o = false := fun o ho => by
  have := (List.mem_filter.1 ho).2
  simpa using this
theorem nset_final : ∀ (l : List Ofr), (∀ o ∈ l, outB o = false) → nset l = l.length
  | [], _ => rfl
  | x :: l, h => by
    have h1 := h x (by simp)
    have h2 := nset_final l fun o ho => h o (by simp [ho])
    unfold nset at h2 ⊢
    simp [h1, h2]
theorem nset_keep (l : List Ofr) : nset (keepL l) = (keepL l).length := nset_final _ (keepL_final l)
theorem settled_keep (l : List Ofr) : (settled (keepL l)).length = (keepL l).length := by simp [settled, nset_keep]
theorem drop_keep (l : List Ofr) : (keepL l).drop (nset (keepL l)) = [] := by rw [nset_keep]; simp
theorem keep_outs : ∀ (l : List Ofr), (keepL l).length + (outs l).length = l.length
  | [] => rfl
  | x :: l => by
    have ih := keep_outs l
    simp only [keepL, outs, List.length_map] at ih ⊢
    cases h : outB x <;> simp [List.filter_cons, h] <;> omega
theorem room_empty {s : Int} (h : 1 ≤ s) : roomOf s [] = s := by unfold roomOf; simp [outs]; omega

/-- behind build: the window in block b, the model's variable in block bm -/
structure DS (w : World) (b gw bm gm : Nat) (s : Int) (l : List Ofr) (sm : Int) (lm : List Ofr) (A : Option Addr) (c : Nat) (wr : World) : Prop where
  win : Win wr b s l gw
  gwb : gw ≠ b
  m : Blk wr bm 58 #[.int .i64 sm, .slice A lm.length c]
  rd : Rd wr gm 34 A lm.length (lm.flatMap ofrc)
  lc : lm.length ≤ c
  gmb : gm ≠ b
  lb : w.heap.size ≤ b
  below : Below w.heap.size w wr
section
variable {w wr w' : World} {b gw bm gm : Nat} {s sm : Int} {l lm : List Ofr} {A : Option Addr} {c : Nat}
theorem DS.below_ (h : DS w b gw bm gm s l sm lm A c wr) (hb : Below wr.heap.size wr w') : DS w b gw bm gm s l sm lm A c w' :=
  ⟨h.win.below hb, h.gwb, h.m.below hb, h.rd.below hb, h.lc, h.gmb, h.lb, h.below.trans (hb.mono h.below.size)⟩
theorem DS.step {s2 : Int} {l2 : List Ofr} {g2 : Nat} (h : DS w b gw bm gm s l sm lm A c wr) (hg : wr.grownBy w' (some b)) (hw : Win w' b s2 l2 g2) (hgb : g2 ≠ b) : DS w b g2 bm gm s2 l2 sm lm A c w' :=
  ⟨hw, hgb, h.m.grown hg (by
    obtain ⟨A', c', h1, _, _⟩ := h.win
    simpa using (h1.ne_ h.m (by decide)).symm), h.rd.grown hg (by simpa using h.gmb), h.lc, h.gmb, h.lb, h.below.grown hg h.below.size (fun x hx => by have := h.lb; simp at hx; omega)⟩
theorem DS.m1 (h : DS w b gw bm gm s l sm lm A c wr) : wr.cell? ⟨bm, 1, none⟩ = some (.slice A lm.length c) := by rw [h.m.cell]; rfl
theorem DS.m0 (h : DS w b gw bm gm s l sm lm A c wr) : wr.cell? ⟨bm, 0, none⟩ = some (.int .i64 sm) := by rw [h.m.cell]; rfl
end

set_option maxHeartbeats 2000000 in
theorem drop_long (n : Int) (l : List Op') (g c : Nat) (A : Option Addr) (w : World) (hl : l.length ≤ maxLen) (h100 : 100 < l.length) :
    Calls Try.prog 7 #[.int .i64 n, .slice A l.length c] w fun e w' => e = .returned (.bool true) ∧ Below w.heap.size w w' := by
  go_enter Try.func7, Try.ntmps7
  go_wp2_with (first
    | (go_at_call 11; with_reducible refine (known_any w).mono ?_; rintro e w1 ⟨rfl, hb1⟩; have HB1 := Lib.hid hb1; clear hb1)
    | (go_at_call 11; with_reducible refine (known_any w1).mono ?_; rintro e w2 ⟨rfl, hb2⟩; have HB2 := Lib.hid (HB1.out.trans' hb2); clear hb2))
  go_ret
  exact ⟨rfl, HB2.out⟩

set_option maxHeartbeats 2000000 in
theorem drop_walk (n : Int) (l : List Op') (g c : Nat) (A : Option Addr) (w : World) (hr : Rd w g 34 A l.length (l.flatMap opc)) (h100 : l.length ≤ 100) :
    Calls Try.prog 7 #[.int .i64 n, .slice A l.length c] w fun e w' => e = .returned (.bool true) ∧ Below w.heap.size w w' := by
  have HR := Lib.hid hr
  clear hr
  go_enter Try.func7, Try.ntmps7
  go_wp2_with (first
    | (go_at_call 11; with_reducible refine (known_any w).mono ?_; rintro e w1 ⟨rfl, hb1⟩; have HB1 := Lib.hid hb1; clear hb1)
    | (go_at_call 24; with_reducible refine (build_any n l g c A w1 (HR.out.below HB1.out) h100).mono ?_; intro e w2 hbp; unfold BPost at hbp; obtain ⟨b, gw, gm, s, lf, Am, cm, he, hw2, hgb, hok, hnd, hlf, hrm, hcm, hgmb, hs1, hs2, hlb, hb2⟩ := hbp; subst he; have HW2 := Lib.hid hw2; have HOK := Lib.hid hok; have HND := Lib.hid hnd; have HRM := Lib.hid hrm; have hbb := HB1.out.trans' hb2; have HBL := Lib.hid (Nat.le_trans HB1.out.size hlb); have hblt := hw2.cells.1; have HB2 := Lib.hid hbb; have HB12 := Lib.hid hb2; clear hw2 hok hnd hrm hb2 hbb hlb)
    | (with_reducible refine at_dst 6 ?_; refine wpList_alloc_blk rfl 58 rfl z58 [.int .i64 0, .slice none 0 0] rfl info58z ?_; intro w3 hm3 hg3 hz3; have HM3 := Lib.hid hm3; have HW3 := Lib.hid (HW2.out.below hg3.toBelow); have HRM3 := Lib.hid (HRM.out.below hg3.toBelow); have HB3 := Lib.hid (HB2.out.trans' hg3.toBelow); have HG3 := Lib.hid hg3; clear hm3 hg3 hz3)
    | (with_reducible refine at_store 58 6 ?_; refine wpList_store_blk rfl 58 _ _ rfl w2.heap.size 0 58 [.int .i64 0, .slice none 0 0] [.int .i64 s, .slice Am lf.length cm] HM3.out rfl rfl (size58' _ _) (by simp) (by simp [Value.oneCell']) ?_; intro w4 hn4 hg4 _; have HD4 : Hid (DS w b gw w2.heap.size gm s lf s lf Am cm w4) := Lib.hid ⟨win_grown58 HW3.out hgb HM3.out hg4, hgb, by simpa using hn4, rd_grown58 HRM3.out HM3.out hg4, hcm, hgmb, HBL.out, HB3.out.grown hg4 HB3.out.size (fun x hx => by have := HB2.out.size; simp at hx; omega)⟩; have HB14 : Hid (Below w1.heap.size w1 w4) := Lib.hid (HB12.out.trans' ((HG3.out.toBelow).grown hg4 HG3.out.size (fun x hx => by simp at hx; omega))); clear hn4 hg4)
    | (go_at_call 25; with_reducible refine (drop_any b gw s lf w4 HD4.out.win (by omega) HD4.out.gwb).mono ?_; rintro e w5 ⟨v5, rfl, ho5, hg5, g5, hw5, hgb5⟩; obtain ⟨A5, c5, rfl⟩ := own_slice ho5; have HD5 := Lib.hid (HD4.out.step hg5 hw5 hgb5); have HO5 := Lib.hid ho5; have hkl := keepL_le lf; clear ho5 hg5 hw5 hgb5)
    | (go_at_call 19; with_reducible refine (len_any b g5 s (keepL lf) w5 HD5.out.win).mono ?_; rintro e w' ⟨rfl, rfl⟩)
    | (go_at_call 13; with_reducible refine (settled_any b g5 s (keepL lf) w5 HD5.out.win (by omega) HD5.out.gwb).mono ?_; rintro e w6 ⟨v6, rfl, ho6, hg6, g6, hw6, hgb6⟩; rw [drop_keep] at hw6; rw [settled_keep] at ho6; obtain ⟨A6, c6, rfl⟩ := own_slice ho6; have HD6 := Lib.hid (HD5.out.step hg6 hw6 hgb6); have HO6 := Lib.hid (HO5.out.kept hg6 (.inr (fun e => by have h1 := (HO5.out.lt b e).1; have h2 := HD4.out.win.cells.1; omega))); clear ho6 hg6 hw6 hgb6)
    | (with_reducible refine at_dst 35 ?_; refine wpList_load_cells rfl 58 _ rfl w2.heap.size 0 [.int .i64 s, .slice Am lf.length cm] rfl _ Try.underlying58 rfl (size58' _ _) (fun j u hu => by rw [Nat.zero_add, HD6.out.m.cell, List.getElem?_toArray]; exact hu) ?_)
    | (go_at_call 27; with_reducible refine (mout_any gm cm Am s lf w6 HD6.out.rd (by omega) HOK.out).mono ?_; rintro e w7 ⟨v7, rfl, ho7, hb7⟩; obtain ⟨A7, c7, rfl⟩ := own_slice ho7; have HD7 := Lib.hid (HD6.out.below_ hb7); obtain ⟨q5, hr5, _, _⟩ := Rd.own (below_kept HO6.out hb7); obtain ⟨q7, hr7, _, _⟩ := Rd.own ho7; have HR5 := Lib.hid hr5; have HR7 := Lib.hid hr7; have hol := outs_le lf; clear ho7 hb7 hr5 hr7)
    | (go_at_call 26; with_reducible refine (ids_any (outs lf) (outs lf) q5 c5 q7 c7 A5 A7 w7 HR5.out HR7.out (by omega) (by omega)).mono ?_; rintro e w8 ⟨he, hb8⟩; rw [decide_eq_true (show outs lf = outs lf from rfl)] at he; subst he; have HD8 := Lib.hid (HD7.out.below_ hb8); clear hb8)
    | (go_at_call 14; with_reducible refine (outstanding_any b g6 s [] w8 HD8.out.win (by simp)).mono ?_; rintro e w9 ⟨v9, rfl, ho9, hb9⟩; rw [show (outs ([] : List Ofr)).length = 0 from rfl] at ho9; obtain ⟨A9, c9, rfl⟩ := own_slice ho9; have HD9 := Lib.hid (HD8.out.below_ hb9); have hm1 := HD9.out.m1; have hsum : (((keepL lf).length : Int) + ((outs lf).length : Int) == (lf.length : Int)) = true := (by have := keep_outs lf; simp; omega); clear ho9 hb9)
    | (go_at_call 19; with_reducible refine (len_any b g6 s [] w9 HD9.out.win).mono ?_; rintro e w' ⟨rfl, rfl⟩; rw [show (([] : List Ofr).length : Int) = 0 from rfl])
    | (go_at_call 22; with_reducible refine (room_any b g6 s [] w9 HD9.out.win (by simp) hs1 hs2).mono ?_; rintro e w10 ⟨he, hb10⟩; rw [room_empty hs1] at he; subst he; have HD10 := Lib.hid (HD9.out.below_ hb10); clear hb10)
    | (go_at_call 21; with_reducible refine (size_any b g6 s [] w10 HD10.out.win).mono ?_; rintro e w' ⟨rfl, rfl⟩))
  go_ret
  exact ⟨rfl, HD10.out.below⟩
theorem dropl_any (n : Int) (l : List Op') (g c : Nat) (A : Option Addr) (w : World) (hr : Rd w g 34 A l.length (l.flatMap opc)) (hl : l.length ≤ maxLen) :
    Calls Try.prog 7 #[.int .i64 n, .slice A l.length c] w fun e w' => e = .returned (.bool true) ∧ Below w.heap.size w w' := by
  by_cases h : l.length ≤ 100
  · exact drop_walk n l g c A w hr h
  · exact drop_long n l g c A w hl (by omega)
end Go.Proofs.Ytbcejdmgdgghfaa
