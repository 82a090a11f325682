/- Contracts of the window's Offer (whole), changes. Conditions: at most 100,000 offers. -/
import Derived.Test.YtbcejdmgdgghfaaWf
namespace Go.Proofs.Ytbcejdmgdgghfaa
set_option linter.unusedSimpArgs false
set_option linter.unusedVariables false
set_option linter.unnecessarySimpa false
open Go.RowKit

theorem offer_at (b g : Nat) (s : Int) (l : List Ofr) (i : Id) (n : Int) (w : World) (h : Win w b s l g) (hl : l.length ≤ 100000) (hgb : g ≠ b) :
    Calls Try.prog 15 #[.pointer (some ⟨b, 0, none⟩), .agg (idc i).toArray, .int .i64 n] w fun e w' => e = .returned (.int .i64 (offE s l i n)) ∧ w.grownBy w' (some b) ∧ ∃ g', Win w' b s (offL s l i n) g' ∧ g' ≠ b ∧ (g' = g ∨ w.heap.size ≤ g') := by
  cases hn : badN n with
  | true => exact (offer_bad b g s l i n w h hn).mono fun e w' ⟨he, hb⟩ => ⟨by rw [he]; simp [offE, hn], hb.grownBy _, g, by simpa [offL, hn] using h.below hb, hgb, .inl rfl⟩
  | false =>
    cases hd : hasId l i with
    | true => exact (offer_dup b g s l i n w h hl hn hd).mono fun e w' ⟨he, hb⟩ => ⟨by rw [he]; simp [offE, hn, hd], hb.grownBy _, g, by simpa [offL, hn, hd] using h.below hb, hgb, .inl rfl⟩
    | false =>
      cases hb : busyB s l with
      | true => exact (offer_busy b g s l i n w h hl hgb hn hd hb).mono fun e w' ⟨he, hw⟩ => ⟨by rw [he]; simp [offE, hn, hd, hb], hw.grownBy _, g, by simpa [offL, hn, hd, hb] using h.below hw, hgb, .inl rfl⟩
      | false => exact (offer_ok b g s l i n w h hl hgb hn hd hb).mono fun e w' ⟨he, hw, g', h1, h2, h3⟩ => ⟨by rw [he]; simp [offE, hn, hd, hb], hw, g', by simpa [offL, hn, hd, hb] using h1, h2, .inr h3⟩

theorem offer_any (b g : Nat) (s : Int) (l : List Ofr) (i : Id) (n : Int) (w : World) (h : Win w b s l g) (hl : l.length ≤ 100000) (hgb : g ≠ b) :
    Calls Try.prog 15 #[.pointer (some ⟨b, 0, none⟩), .agg (idc i).toArray, .int .i64 n] w fun e w' => e = .returned (.int .i64 (offE s l i n)) ∧ w.grownBy w' (some b) ∧ ∃ g', Win w' b s (offL s l i n) g' ∧ g' ≠ b :=
  (offer_at b g s l i n w h hl hgb).mono fun e w' ⟨he, hw, g', h1, h2, _⟩ => ⟨he, hw, g', h1, h2⟩

def row0 : List Value := [.bool false, .bool true, .bool false, .bool true, .bool true, .bool true]
def row1 : List Value := [.bool false, .bool false, .bool true, .bool false, .bool true, .bool true]
def zrow : List Value := List.replicate 6 (.bool false)
def z85c : List Value := zrow ++ zrow ++ zrow ++ zrow ++ zrow ++ zrow
def chgC : List Value := row0 ++ row1 ++ zrow ++ zrow ++ zrow ++ zrow
def z85 : Value := .agg z85c.toArray
theorem info85 : (Try.prog.info? 85).map (fun i => i.zero) = some (some z85) := by kernel_rfl
theorem size85 : (Try.prog.info? 85).map (·.size) = some 36 := by kernel_rfl
theorem size84 : (Try.prog.info? 84).map (·.size) = some 6 := by kernel_rfl
theorem oneCell_bools (l : List Value) (h : (l.all fun v => v.oneCell') = true) : ∀ u ∈ l, u.oneCell' = true := fun u hu => (List.all_eq_true.1 h) u hu
theorem row0_len : row0.length = 6 := by decide
theorem row1_len : row1.length = 6 := by decide
theorem chgC_len : chgC.length = 36 := by decide
theorem sz_row0 : (Try.prog.info? 84).map (·.size) = some row0.length := by rw [row0_len]; exact size84
theorem sz_row1 : (Try.prog.info? 84).map (·.size) = some row1.length := by rw [row1_len]; exact size84
theorem sz_chg : (Try.prog.info? 85).map (·.size) = some chgC.length := by rw [chgC_len]; exact size85
theorem splice0 : z85c.take 0 ++ row0 ++ z85c.drop (0 + row0.length) = row0 ++ zrow ++ zrow ++ zrow ++ zrow ++ zrow := by rfl
theorem splice1 : (row0 ++ zrow ++ zrow ++ zrow ++ zrow ++ zrow).take 6 ++ row1 ++ (row0 ++ zrow ++ zrow ++ zrow ++ zrow ++ zrow).drop (6 + row1.length) = chgC := by rfl
theorem splice2 : z85c.take 0 ++ chgC ++ z85c.drop (0 + chgC.length) = chgC := by rfl
theorem changes_any (w : World) : Calls Try.prog 40 #[] w fun e w' => e = .returned (.agg chgC.toArray) ∧ Below w.heap.size w w' := by
  go_enter Try.func40, Try.ntmps40
  go_wp2_with (first
    | (with_reducible refine at_dst 0 ?_; refine wpList_alloc_blk rfl 85 rfl z85 z85c rfl info85 ?_; intro w1 hb1 hg1 hz1; have HB1 := Lib.hid hb1; have HG1 := Lib.hid hg1; have HZ1 := Lib.hid hz1; clear hb1 hg1 hz1)
    | (with_reducible refine at_dst 1 ?_; refine wpList_alloc_blk rfl 85 rfl z85 z85c rfl info85 ?_; intro w2 hb2 hg2 hz2; have HB2 := Lib.hid hb2; have HG2 := Lib.hid hg2; have HZ2 := Lib.hid hz2; clear hb2 hg2 hz2)
    | (with_reducible refine at_store 84 3 ?_; refine wpList_store_blk rfl 84 _ _ rfl w1.heap.size 0 85 z85c row0 HB2.out rfl rfl sz_row0 (by decide) (oneCell_bools _ rfl) ?_; intro w3 hb3 hg3 hz3; rw [splice0] at hb3; have HB3 := Lib.hid hb3; have HG3 := Lib.hid hg3; have HZ3 := Lib.hid hz3; clear hb3 hg3 hz3)
    | (with_reducible refine at_store 84 5 ?_; refine wpList_store_blk rfl 84 _ _ rfl w1.heap.size 6 85 (row0 ++ zrow ++ zrow ++ zrow ++ zrow ++ zrow) row1 HB3.out rfl rfl sz_row1 (by decide) (oneCell_bools _ rfl) ?_; intro w4 hb4 hg4 hz4; rw [splice1] at hb4; have HB4 := Lib.hid hb4; have HG4 := Lib.hid hg4; have HZ4 := Lib.hid hz4; clear hb4 hg4 hz4)
    | (with_reducible refine at_dst 6 ?_; refine wpList_load_cells rfl 85 _ rfl w1.heap.size 0 chgC rfl _ Try.underlying85 rfl sz_chg (fun j u hu => by rw [Nat.zero_add, HB4.out.cell, List.getElem?_toArray]; exact hu) ?_)
    | (with_reducible refine at_store 85 0 ?_; refine wpList_store_blk rfl 85 _ _ rfl w.heap.size 0 85 z85c chgC (((HB1.out.grown HG2.out (by simp)).grown HG3.out (by have := HZ1.out; simp; omega)).grown HG4.out (by have := HZ1.out; simp; omega)) rfl rfl sz_chg (by decide) (oneCell_bools _ rfl) ?_; intro w5 hb5 hg5 hz5; rw [splice2] at hb5; have HB5 := Lib.hid hb5; have HG5 := Lib.hid hg5; have HZ5 := Lib.hid hz5; clear hb5 hg5 hz5))
  refine bodyPost_ret (v := .agg chgC.toArray) (results_cell_row rfl _ _ w.heap.size 85 chgC.toArray (0, 0) _ rfl HB5.out Try.underlying85 rfl (by rw [List.size_toArray]; exact sz_chg)) rfl ⟨rfl, ?_⟩
  have h1 := HZ1.out
  exact (((((Below.refl _ _).grown HG1.out (Nat.le_refl _) (by simp)).grown HG2.out HG1.out.size (by simp)).grown HG3.out (Nat.le_trans HG1.out.size HG2.out.size) (fun k hk => by simp at hk; omega)).grown HG4.out (by have := HG1.out.size; have := HG2.out.size; have := HG3.out.size; omega) (fun k hk => by simp at hk; omega)).grown HG5.out (by have := HG1.out.size; have := HG2.out.size; have := HG3.out.size; have := HG4.out.size; omega) (fun k hk => by simp at hk; omega)
end Go.Proofs.Ytbcejdmgdgghfaa
