/- Contracts of the window's Outcome and Room. Conditions: at most 100,000 offers. -/
import Derived.Test.YtbcejdmgdgghfaaWd
import Derived.Test.YtbcejdmgdgghfaaSeq
namespace Go.Proofs.Ytbcejdmgdgghfaa
set_option linter.unusedSimpArgs false
set_option linter.unusedVariables false
set_option linter.unnecessarySimpa false
open Go.RowKit

theorem idxI_spec {α : Type} (p : α → Bool) : ∀ (l : List α) (s : Int), (idxI p l s = -1 ∧ l.find? p = none) ∨ ∃ k, ∃ (hk : k < l.length), idxI p l s = s + k ∧ p l[k] = true ∧ l.find? p = some l[k] ∧ l.findIdx p = k
  | [], s => .inl ⟨rfl, rfl⟩
  | x :: l, s => by
    cases h : p x
    · rcases idxI_spec p l (s + 1) with ⟨h1, h2⟩ | ⟨k, hk, h1, h2, h3, h4⟩
      · exact .inl ⟨by simp [idxI, h, h1], by simp [h, h2]⟩
      · refine .inr ⟨k + 1, by simpa using hk, ?_, by simpa using h2, by simp [h, h3], by simp [List.findIdx_cons, h, h4]⟩
        simp only [idxI, h, Bool.false_eq_true, if_false, h1]; omega
    · exact .inr ⟨0, by simp, by simp [idxI, h], by simpa using h, by simp [h], by simp [List.findIdx_cons, h]⟩

theorem ret_int {k : IntKind} {a b : Int} (h : a = b) : Ending.returned (.int k a) = .returned (.int k b) := by rw [h]
def outcomeOf (l : List Ofr) (i : Id) : Int × Bool := match l.find? (isId i) with | some o => (o.outcome, true) | none => (0, false)

theorem outcome_nil (i : Id) (w : World) :
    Calls Try.prog 28 #[.pointer none, .agg (idc i).toArray] w fun e w' => e = .returned (.tuple #[.int .i64 0, .bool false]) ∧ Below w.heap.size w w' := by
  go_enter Try.func28, Try.ntmps28
  go_wp2_with (first
    | (with_reducible refine at_dst 8 ?_; refine wpList_load_cells rfl 37 _ rfl w.heap.size 0 (idc i) rfl _ Try.underlying37 rfl (by rw [idc_len]; exact size37) (fun j u hu => by rw [World.cell?_alloc_new, Nat.zero_add, List.getElem?_toArray]; exact hu) ?_)
    | (go_at_call 39; refine (find_nil _ _).mono ?_; rintro e w1 ⟨rfl, hb1⟩; have HB := Lib.hid hb1; clear hb1))
  go_ret2
  exact ⟨rfl, (bnew _ _).trans' HB.out⟩

theorem outcome_any (b g : Nat) (s : Int) (l : List Ofr) (i : Id) (w : World) (h : Win w b s l g) (hl : l.length ≤ 100000) :
    Calls Try.prog 28 #[.pointer (some ⟨b, 0, none⟩), .agg (idc i).toArray] w fun e w' => e = .returned (.tuple #[.int .i64 (outcomeOf l i).1, .bool (outcomeOf l i).2]) ∧ Below w.heap.size w w' := by
  have hw0 := h.below (bnew w (.cells (idc i).toArray 37))
  rcases idxI_spec (isId i) l 0 with ⟨h1, h2⟩ | ⟨k, hk, h1, h2, h3, h4⟩
  · have ho : outcomeOf l i = (0, false) := by simp [outcomeOf, h2]
    have HO := Lib.hid ho
    have HI := Lib.hid h1
    have HW := Lib.hid hw0
    clear ho h1 h2 h hw0
    go_enter Try.func28, Try.ntmps28
    go_wp2_with (first
      | (with_reducible refine at_dst 8 ?_; refine wpList_load_cells rfl 37 _ rfl w.heap.size 0 (idc i) rfl _ Try.underlying37 rfl (by rw [idc_len]; exact size37) (fun j u hu => by rw [World.cell?_alloc_new, Nat.zero_add, List.getElem?_toArray]; exact hu) ?_)
      | (go_at_call 39; refine (find_any b g s l i _ HW.out hl).mono ?_; rintro e w1 ⟨he, hb1⟩; obtain rfl := he.trans (congrArg (fun n => Ending.returned (.int .i64 n)) HI.out); clear he; have HB := Lib.hid hb1; clear hb1))
    go_ret2
    exact ⟨by rw [HO.out]; rfl, (bnew _ _).trans' HB.out⟩
  · have ho : outcomeOf l i = (l[k].outcome, true) := by simp [outcomeOf, h3]
    rw [Int.zero_add] at h1
    have HO := Lib.hid ho
    have HI := Lib.hid h1
    have HW := Lib.hid hw0
    clear ho h1 h2 h3 h4 h hw0
    go_enter Try.func28, Try.ntmps28
    go_wp2_with (first
      | (with_reducible refine at_dst 8 ?_; refine wpList_load_cells rfl 37 _ rfl w.heap.size 0 (idc i) rfl _ Try.underlying37 rfl (by rw [idc_len]; exact size37) (fun j u hu => by rw [World.cell?_alloc_new, Nat.zero_add, List.getElem?_toArray]; exact hu) ?_)
      | (go_at_call 39; refine (find_any b g s l i _ HW.out hl).mono ?_; rintro e w1 ⟨he, hb1⟩; obtain rfl := he.trans (congrArg (fun n => Ending.returned (.int .i64 n)) HI.out); clear he; obtain ⟨_, _, _, _, A, c, hc1, hr, _⟩ := (HW.out.below hb1).cells; obtain ⟨hg, off, rfl, hc⟩ := hr.elem ofrc_len hk rfl; have hcell := hc 33 _ (ofrc_33 _); have HB := Lib.hid hb1; clear hb1 hr hc))
    go_ret2
    exact ⟨by rw [HO.out]; rfl, (bnew _ _).trans' HB.out⟩

def roomOf (s : Int) (l : List Ofr) : Int := max 0 (s - (outs l).length)

theorem room_nil (w : World) :
    Calls Try.prog 22 #[.pointer none] w fun e w' => e = .returned (.int .i64 0) ∧ Below w.heap.size w w' := by
  go_enter Try.func22, Try.ntmps22
  go_wp2
  go_ret
  exact ⟨rfl, Below.refl _ _⟩
theorem room_any (b g : Nat) (s : Int) (l : List Ofr) (w : World) (h : Win w b s l g) (hl : l.length ≤ 100000) (hs : 1 ≤ s) (hs2 : s ≤ 64) :
    Calls Try.prog 22 #[.pointer (some ⟨b, 0, none⟩)] w fun e w' => e = .returned (.int .i64 (roomOf s l)) ∧ Below w.heap.size w w' := by
  have hle := outs_le l
  have hsub : IntKind.i64.wrap (s - ↑(outs l).length) = s - ↑(outs l).length := IntWalk.i64_in _ (by omega)
  have HW := Lib.hid h
  clear h
  by_cases hm : s - ((outs l).length : Int) ≤ 0
  all_goals
    go_enter Try.func22, Try.ntmps22
    go_wp2_with fail
    refine wp_region_seq (nt := 14) (by kernel_rfl) [0,1,2,3,4,5,6,7,8,9] [] Rb Rb.refl Rb.trans [(5, fun v w' => ∃ A c, v = .slice A (outs l).length c)] (by kernel_rfl) (by simp) rfl rfl (by simp) ⟨fun _ _ _ _ _ h => h, trivial⟩ ?_
    iterate 3 (refine' Sq.det (E := _) (b := _) (by rfl) (by rfl) (by rfl) (fun w' hR hf => ?_) ?_ ?_; rotate_left 2; (· (go_simp; first | done | with_reducible rfl)); (· (simp only [Act.put, List.setIfInBounds_toArray, List.set_cons_zero, List.set_cons_succ]; first | done | rfl)))
    (refine' Sq.det (E := _) (b := _) (by rfl) (by rfl) (by rfl) (fun w' hR hf => ?_) ?_ ?_; rotate_left 2; (· (obtain ⟨_, _, _, hc0, _⟩ := (HW.out.below (below_undrew hR)).cells; go_simp; first | done | with_reducible rfl)); (· (simp only [Act.put, List.setIfInBounds_toArray, List.set_cons_zero, List.set_cons_succ]; first | done | rfl)))
    (refine' Sq.det (E := _) (b := _) (by rfl) (by rfl) (by rfl) (fun w' hR hf => ?_) ?_ ?_; rotate_left 2; (· (go_simp; first | done | with_reducible rfl)); (· (simp only [Act.put, List.setIfInBounds_toArray, List.set_cons_zero, List.set_cons_succ]; first | done | rfl)))
    (refine' Sq.any (f := _) (by rfl) (by rfl) (by rfl) (fun w' hR hf => ?_) (fun v => ?_) (fun v => ?_); (· (go_wp2_with (go_at_call 14; refine (outstanding_any b g s l w' (HW.out.below (below_undrew hR)) hl).mono ?_; rintro e w1 ⟨v, rfl, ho, hb1⟩); obtain ⟨A', c', g', rfl, _⟩ := NewSl.own ho; exact ⟨hb1, _, _, rfl⟩)); rotate_left 1; (· (simp only [Act.put, List.setIfInBounds_toArray, List.set_cons_zero, List.set_cons_succ]; first | done | rfl)))
    (refine' Sq.det (E := _) (b := _) (by rfl) (by rfl) (by rfl) (fun w' hR hf => ?_) ?_ ?_; rotate_left 2; (· (have hv : ∃ A c, v = .slice A (outs l).length c := hf 5 (by decide) _ rfl; obtain ⟨A, c, rfl⟩ := hv; go_simp; first | done | with_reducible rfl)); (· (simp only [Act.put, List.setIfInBounds_toArray, List.set_cons_zero, List.set_cons_succ]; first | done | rfl)))
    (refine' Sq.det (E := _) (b := _) (by rfl) (by rfl) (by rfl) (fun w' hR hf => ?_) ?_ ?_; rotate_left 2; (· (go_simp; first | done | with_reducible rfl)); (· (simp only [Act.put, List.setIfInBounds_toArray, List.set_cons_zero, List.set_cons_succ]; first | done | rfl)))
    (refine' Sq.det (E := _) (b := _) (by rfl) (by rfl) (by rfl) (fun w' hR hf => ?_) ?_ ?_; rotate_left 2; (· (go_simp; first | done | with_reducible rfl)); (· (simp only [Act.put, List.setIfInBounds_toArray, List.set_cons_zero, List.set_cons_succ]; first | done | rfl)))
    (refine' Sq.det (E := _) (b := _) (by rfl) (by rfl) (by rfl) (fun w' hR hf => ?_) ?_ ?_; rotate_left 2; (· (go_simp; first | done | with_reducible rfl)); (· (simp only [Act.put, List.setIfInBounds_toArray, List.set_cons_zero, List.set_cons_succ]; first | done | rfl)))
    refine Sq.done fun w' hR _ => ?_
    go_wp2
    go_ret
    exact ⟨ret_int (by unfold roomOf; omega), below_undrew hR⟩
end Go.Proofs.Ytbcejdmgdgghfaa
