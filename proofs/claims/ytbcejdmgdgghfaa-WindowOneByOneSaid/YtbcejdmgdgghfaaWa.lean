/- Contracts of the window's smallest functions: outstanding, the predicate of find. Conditions: none. -/
import Derived.Test.YtbcejdmgdgghfaaIds
namespace Go.Proofs.Ytbcejdmgdgghfaa
set_option linter.unusedSimpArgs false
set_option linter.unusedVariables false
set_option linter.unnecessarySimpa false
open Go.RowKit

def outB (o : Ofr) : Bool := o.outcome == 0 || o.outcome == 1

theorem bnew (w : World) (o : Obj) : Below w.heap.size w (w.alloc o) := (Below.refl _ _).alloc (Nat.le_refl _) _

theorem out_any (o : Ofr) (w : World) :
    Calls Try.prog 37 #[.agg (ofrc o).toArray] w fun e w' => e = .returned (.bool (outB o)) ∧ Below w.heap.size w w' := by
  have h33 := ofrc_33 o
  cases hb : o.outcome == 0
  · go_enter Try.func37, Try.ntmps37
    go_wp2
    go_ret
    exact ⟨by simp [outB, hb], bnew _ _⟩
  · go_enter Try.func37, Try.ntmps37
    go_wp2
    go_ret
    exact ⟨by simp [outB, hb], bnew _ _⟩

theorem find1_any (o : Ofr) (i : Id) (p : Nat) (w : World) (hp : Blk w p 37 (idc i).toArray) :
    Calls Try.prog 43 #[.agg (ofrc o).toArray, .pointer (some ⟨p, 0, none⟩)] w fun e w' => e = .returned (.bool (decide (o.id = i))) ∧ Below w.heap.size w w' := by
  have heq := run_eql_ids
  have hp' := hp.alloc (.cells (ofrc o).toArray 81)
  have hlt := hp.lt
  have H1 : Hid _ := Lib.hid hp'
  clear hp hp'
  go_enter Try.func43, Try.ntmps43
  go_wp2_with (first
    | (with_reducible refine at_dst 5 ?_; refine wpList_load_cells rfl 37 _ rfl w.heap.size 0 (idc o.id) rfl _ Try.underlying37 rfl (by rw [idc_len]; exact size37) (fun j u hu => ?_) ?_; (have hj : j < 32 := by (have := (List.getElem?_eq_some_iff.1 hu).1; rwa [idc_len] at this)); (rw [World.cell?_alloc_new, List.getElem?_toArray, Nat.zero_add, ofrc_id o j hj]; exact hu))
    | (with_reducible refine at_dst 6 ?_; refine wpList_load_cells rfl 37 _ rfl p 0 (idc i) rfl _ Try.underlying37 rfl (by rw [idc_len]; exact size37) (fun j u hu => ?_) ?_; (rw [Nat.zero_add, H1.out.cell, List.getElem?_toArray]; exact hu)))
  go_ret
  exact ⟨rfl, bnew _ _⟩
end Go.Proofs.Ytbcejdmgdgghfaa
