/- Contracts of the window's find, Outstanding, Outcome, Room. Conditions: at most 100,000 offers. -/
import Derived.Test.YtbcejdmgdgghfaaWc
namespace Go.Proofs.Ytbcejdmgdgghfaa
set_option linter.unusedSimpArgs false
set_option linter.unusedVariables false
set_option linter.unnecessarySimpa false
open Go.RowKit

theorem Win.below {w w' : World} {b g : Nat} {s : Int} {l : List Ofr} (h : Win w b s l g) (hb : Below w.heap.size w w') : Win w' b s l g := by
  obtain ⟨A, c, h1, h2, h3⟩ := h
  exact ⟨A, c, h1.below hb, h2.below hb, h3⟩
theorem Win.grown {w w' : World} {b g : Nat} {s : Int} {l : List Ofr} {row : Option Nat} (h : Win w b s l g) (hb : w.grownBy w' row) (h1 : some b ≠ row) (h2 : some g ≠ row) : Win w' b s l g := by
  obtain ⟨A, c, k1, k2, k3⟩ := h
  exact ⟨A, c, k1.grown hb h1, k2.grown hb h2, k3⟩

/-- the frame facts of a window, as the walk takes them -/
theorem Win.cells {w : World} {b g : Nat} {s : Int} {l : List Ofr} (h : Win w b s l g) : b < w.heap.size ∧ w.frozen? ⟨b, 0, none⟩ = false ∧ w.frozen? ⟨b, 1, none⟩ = false ∧ w.cell? ⟨b, 0, none⟩ = some (.int .i64 s) ∧
    ∃ A c, w.cell? ⟨b, 1, none⟩ = some (.slice A l.length c) ∧ Rd w g 34 A l.length (l.flatMap ofrc) ∧ l.length ≤ c := by
  obtain ⟨A, c, h1, h2, h3⟩ := h
  refine ⟨h1.lt, h1.frozen 0, h1.frozen 1, ?_, A, c, ?_, h2, h3⟩
  · rw [h1.cell]; rfl
  · rw [h1.cell]; rfl

theorem find_nil (i : Id) (w : World) :
    Calls Try.prog 39 #[.pointer none, .agg (idc i).toArray] w fun e w' => e = .returned (.int .i64 (-1)) ∧ Below w.heap.size w w' := by
  go_enter Try.func39, Try.ntmps39
  go_wp2
  go_ret
  exact ⟨rfl, bnew _ _⟩

theorem find_any (b g : Nat) (s : Int) (l : List Ofr) (i : Id) (w : World) (h : Win w b s l g) (hl : l.length ≤ 100000) :
    Calls Try.prog 39 #[.pointer (some ⟨b, 0, none⟩), .agg (idc i).toArray] w fun e w' => e = .returned (.int .i64 (idxI (isId i) l 0)) ∧ Below w.heap.size w w' := by
  obtain ⟨hlt, _, _, _, A, c, hc1, hr, _⟩ := h.cells
  have hc1' : (w.alloc (.cells (idc i).toArray 37)).cell? ⟨b, 1, none⟩ = some (.slice A l.length c) := by
    rw [World.cell?_alloc_lt _ _ _ (by exact hlt)]; exact hc1
  have HR := Lib.hid (hr.below (bnew w (.cells (idc i).toArray 37)))
  clear hr h hc1
  go_enter Try.func39, Try.ntmps39
  go_wp2_with (go_at_call 36; refine (idx_find l g _ c A i w.heap.size _ HR.out rfl hl (Blk.new _ _ _)).mono ?_; rintro e w1 ⟨rfl, hb1⟩; have HB := Lib.hid hb1; clear hb1)
  go_ret
  exact ⟨rfl, (bnew _ _).trans' HB.out⟩

/-- the identities of the outstanding offers -/
def outs (l : List Ofr) : List Id := (l.filter outB).map (·.id)
theorem outs_snoc (l : List Ofr) (o : Ofr) : outs (l ++ [o]) = outs l ++ (if outB o then [o.id] else []) := by
  cases h : outB o <;> simp [outs, List.filter_append, h]
theorem outs_take (l : List Ofr) (k : Nat) (hk : k < l.length) : outs (l.take (k + 1)) = outs (l.take k) ++ (if outB l[k] then [l[k].id] else []) := by
  rw [← outs_snoc, List.take_succ_eq_append_getElem hk]
theorem outs_le (l : List Ofr) : (outs l).length ≤ l.length := by
  simp only [outs, List.length_map]; exact List.length_filter_le _ _

set_option maxHeartbeats 1000000 in
theorem outstanding_any (b g : Nat) (s : Int) (l : List Ofr) (w : World) (h : Win w b s l g) (hl : l.length ≤ 100000) :
    Calls Try.prog 14 #[.pointer (some ⟨b, 0, none⟩)] w fun e w' => ∃ v, e = .returned v ∧ w'.ownsRow w.heap.size 37 32 v (outs l).length ((outs l).flatMap idc) ∧ Below w.heap.size w w' := by
  obtain ⟨hlt, _, _, _, A, c, hc1, hr, _⟩ := h.cells
  obtain ⟨i0, hi0, hz0, hz1, hz2⟩ := info_parts info37
  have HR := Lib.hid hr
  clear hr h
  go_enter Try.func14, Try.ntmps14
  go_wp2_with fail
  go_loopw [3, 13] (fun v si wr => ∃ k : Nat, k ≤ l.length ∧ si = .int .i64 k ∧ wr.ownsRow w.heap.size 37 32 v (outs (l.take k)).length ((outs (l.take k)).flatMap idc) ∧ Below w.heap.size w wr) (fun _ i _ => l.length - (intOf i).toNat)
  case atStart => exact ⟨0, by omega, rfl, World.ownsRow_nil _ _ _ _, Below.refl _ _⟩
  case round =>
    obtain ⟨k, hk, rfl, hown, hbw⟩ := hrel
    by_cases hlt' : k < l.length
    · obtain ⟨hg, off, rfl, hc⟩ := (HR.out.below hbw).elem ofrc_len hlt' rfl
      have HC := Lib.hid hc
      have HB := Lib.hid hbw
      have HO := Lib.hid hown
      have hle : (outs (l.take k)).length ≤ 100000 := by have := outs_le (l.take k); simp only [List.length_take] at this; omega
      clear hc hg hbw hown
      cases hp : outB l[k]
      all_goals
        have HP := Lib.hid hp
        clear hp
        go_wp2_with (first
          | (with_reducible refine at_dst 16 ?_; refine wpList_load_cells rfl 81 _ rfl g (off + k * 34) (ofrc l[k]) rfl _ Try.underlying81 rfl (by rw [ofrc_len]; exact size81) (fun j u hu => HC.out j u hu) ?_)
          | (with_reducible refine at_dst 5 ?_; refine wpList_var 81 (ofrc l[k]) _ Try.underlying81 z81 (by rw [ofrc_len]; exact info81') (by rw [ofrc_len]; exact z81_size) (oneCell_ofrc _) (by simp [Act.put]) rfl ?_)
          | (with_reducible refine at_dst 17 ?_; refine wpList_load_cells rfl 81 _ rfl wr.heap.size 0 (ofrc l[k]) rfl _ Try.underlying81 rfl (by rw [ofrc_len]; exact size81) (fun j u hu => by rw [World.cell?_alloc_new, Nat.zero_add, List.getElem?_toArray]; exact hu) ?_)
          | (go_at_call 37; refine (out_any _ _).mono ?_; rintro e w1 ⟨he, hb1⟩; obtain rfl := he.trans (congrArg (fun b => Ending.returned (.bool b)) HP.out); clear he; have HB1 := Lib.hid hb1; have HW := Lib.hid ((Blk.new wr 81 (ofrc l[k]).toArray).below hb1); clear hb1)
          | (with_reducible refine at_dst 21 ?_; refine wpList_load_cells rfl 37 _ rfl wr.heap.size 0 (idc l[k].id) rfl _ Try.underlying37 rfl (by rw [idc_len]; exact size37) (fun j u hu => ?_) ?_; (have hj : j < 32 := by (have := (List.getElem?_eq_some_iff.1 hu).1; rwa [idc_len] at this)); (rw [HW.out.cell, List.getElem?_toArray, Nat.zero_add, ofrc_id _ j hj]; exact hu))
          | (with_reducible refine at_dst 22 ?_; refine wpList_push 33 w.heap.size 37 i0 z37 32 32 Try.underlying33 hi0 hz0 hz1 hz2 z37_size (by omega) (by omega) _ (idc l[k].id) rfl rfl (idc_len _) (oneCell_idc _) u3 (outs (l.take k)).length ((outs (l.take k)).flatMap idc) rfl (by simp [Act.put]) ((HO.out.alloc (.cells (ofrc l[k]).toArray 81)).kept (HB1.out.grownBy none) (by cases hv : Value.ownBlock _ <;> simp)) (by simp only [maxLen]; omega) (by omega) (by have h1 := HB.out.size; have h2 := HB1.out.size; simp at h2; omega) ?_; intro v' w2 hown2 hgr2 _; have HO2 := Lib.hid hown2; have HG2 := Lib.hid hgr2; clear hown2 hgr2))
        skip
      · go_roundw
        case rel =>
          have hbb := (HB.out.alloc HB.out.size (.cells (ofrc l[k]).toArray 81)).trans (HB1.out.mono (by have := HB.out.size; simp; omega))
          refine ⟨k + 1, by omega, by go_num, ?_, hbb⟩
          rw [outs_take l k hlt', HP.out]
          simp only [Bool.false_eq_true, if_false, List.append_nil]
          exact (HO.out.alloc _).kept (HB1.out.grownBy none) (by cases hv : Value.ownBlock _ <;> simp)
        case measure => simp [intOf]; omega
      · go_roundw
        case rel =>
          have hbb := (HB.out.alloc HB.out.size (.cells (ofrc l[k]).toArray 81)).trans (HB1.out.mono (by have := HB.out.size; simp; omega))
          have hbb2 := hbb.grown HG2.out hbb.size (fun x hx => (HO.out.lt x hx).1)
          refine ⟨k + 1, by omega, by go_num, ?_, hbb2⟩
          rw [outs_take l k hlt', HP.out]
          simpa using HO2.out
        case measure => simp [intOf]; omega
    · go_wp2_with fail
      go_ret
      rw [List.take_of_length_le (by omega)] at hown
      exact ⟨_, rfl, hown, hbw⟩
end Go.Proofs.Ytbcejdmgdgghfaa
