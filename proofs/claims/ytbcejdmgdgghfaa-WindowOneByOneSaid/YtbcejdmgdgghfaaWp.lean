/- Contract of perform: an operation on a window. Conditions: at most 1,000 offers, outcomes from 0 to 5, a size from 1 to 64. -/
import Derived.Test.YtbcejdmgdgghfaaWm
import Derived.OwnWalk
namespace Go.Proofs.Ytbcejdmgdgghfaa
set_option linter.unusedSimpArgs false
set_option linter.unusedVariables false
set_option linter.unnecessarySimpa false
open Go.RowKit

/-- the window's step: size and offers after an operation, its error, results and identities -/
structure Stp where
  size : Int
  offers : List Ofr
  err : Int
  res : List Res
  ids : List Id
def knd (o : Op') : Nat := o.kind.toNat % 5
def stepW (s : Int) (l : List Ofr) (o : Op') : Stp :=
  if knd o = 0 then ⟨s, offL s l o.id o.n, offE s l o.id o.n, [], []⟩
  else if knd o = 1 then ⟨s, ansL l o.id o.n, ansE l o.id o.n, [], []⟩
  else if knd o = 2 then ⟨s, l.drop (nset l), 0, settled l, []⟩
  else if knd o = 3 then ⟨s, keepL l, 0, [], outs l⟩
  else ⟨if validB o.n then o.n else s, l, errV o.n, [], []⟩

theorem rem5 (k : Nat) (hk : k < 256) : ∀ j : Nat, k % 5 = j → (k : Int).tmod 5 = j := by
  intro j hj
  subst hj
  rw [Int.tmod_eq_emod_of_nonneg (by omega)]
  omega
def PPost (b : Nat) (w : World) (t : Stp) (e : Ending) (w' : World) : Prop :=
  ∃ v1 v2, e = .returned (.tuple #[.int .i64 t.err, v1, v2]) ∧ w'.ownsRow w.heap.size 43 33 v1 t.res.length (t.res.flatMap resc) ∧ w'.ownsRow w.heap.size 37 32 v2 t.ids.length (t.ids.flatMap idc) ∧ w.grownBy w' (some b) ∧ ∃ g', Win w' b t.size t.offers g' ∧ g' ≠ b

set_option maxHeartbeats 1000000 in
theorem perform0 (b g : Nat) (s : Int) (l : List Ofr) (o : Op') (w : World) (h : Win w b s l g) (hl : l.length ≤ 100000) (hgb : g ≠ b) (hok : OkL l) (hk : knd o = 0) :
    Calls Try.prog 23 #[.pointer (some ⟨b, 0, none⟩), .agg (opc o).toArray] w fun e w' => PPost b w (stepW s l o) e w' := by
  have hkl := o.kind.toNat_lt
  have hr := rem5 o.kind.toNat (by omega) 0 hk
  have HK := Lib.hid hk
  have HOK := Lib.hid hok
  have HW := Lib.hid (h.below (bnew w (.cells (opc o).toArray 51)))
  have hp := Blk.new w 51 (opc o).toArray
  have HP := Lib.hid hp
  have hlb := h.cells.1
  have c0 := (hp.cell 0).trans (by rw [List.getElem?_toArray, opc_0])
  have c33 := (hp.cell 33).trans (by rw [List.getElem?_toArray, opc_33])
  have HL := Lib.hid hlb
  have HB := Lib.hid ((bnew w (.cells (opc o).toArray 51)).grownBy (some b))
  clear h hp hlb hk hok
  go_enter Try.func23, Try.ntmps23
  go_wp2_with (first
    | (with_reducible refine at_dst 14 ?_; refine wpList_load_cells rfl 37 _ rfl w.heap.size 1 (idc o.id) rfl _ Try.underlying37 rfl (sz_id _) (fun j u hu => ?_) ?_; (have hj : j < 32 := by (have := (List.getElem?_eq_some_iff.1 hu).1; rwa [idc_len] at this)); (rw [HP.out.cell, List.getElem?_toArray, opc_id _ j hj]; exact hu))
    | (go_at_call 15; with_reducible refine (offer_any b g s l o.id o.n _ HW.out hl hgb).mono ?_; rintro e w1 ⟨rfl, hg1, hw1⟩; have HG1 := Lib.hid hg1; have HW1 := Lib.hid hw1; clear hg1 hw1))
  go_ret3
  rw [stepW, if_pos HK.out]
  exact ⟨_, _, rfl, World.ownsRow_nil _ _ _ _, World.ownsRow_nil _ _ _ _, HB.out.trans' HG1.out, HW1.out⟩
set_option maxHeartbeats 1000000 in
theorem perform1 (b g : Nat) (s : Int) (l : List Ofr) (o : Op') (w : World) (h : Win w b s l g) (hl : l.length ≤ 100000) (hgb : g ≠ b) (hok : OkL l) (hk : knd o = 1) :
    Calls Try.prog 23 #[.pointer (some ⟨b, 0, none⟩), .agg (opc o).toArray] w fun e w' => PPost b w (stepW s l o) e w' := by
  have hkl := o.kind.toNat_lt
  have hr := rem5 o.kind.toNat (by omega) 1 hk
  have HK := Lib.hid hk
  have HOK := Lib.hid hok
  have HW := Lib.hid (h.below (bnew w (.cells (opc o).toArray 51)))
  have hp := Blk.new w 51 (opc o).toArray
  have HP := Lib.hid hp
  have hlb := h.cells.1
  have c0 := (hp.cell 0).trans (by rw [List.getElem?_toArray, opc_0])
  have c33 := (hp.cell 33).trans (by rw [List.getElem?_toArray, opc_33])
  have HL := Lib.hid hlb
  have HB := Lib.hid ((bnew w (.cells (opc o).toArray 51)).grownBy (some b))
  clear h hp hlb hk hok
  go_enter Try.func23, Try.ntmps23
  go_wp2_with (first
    | (with_reducible refine at_dst 22 ?_; refine wpList_load_cells rfl 37 _ rfl w.heap.size 1 (idc o.id) rfl _ Try.underlying37 rfl (sz_id _) (fun j u hu => ?_) ?_; (have hj : j < 32 := by (have := (List.getElem?_eq_some_iff.1 hu).1; rwa [idc_len] at this)); (rw [HP.out.cell, List.getElem?_toArray, opc_id _ j hj]; exact hu))
    | (go_at_call 17; with_reducible refine (answer_any b g s l o.id o.n _ HW.out hl hgb HOK.out).mono ?_; rintro e w1 ⟨rfl, hg1, hw1⟩; have HG1 := Lib.hid hg1; have HW1 := Lib.hid hw1; clear hg1 hw1))
  go_ret3
  rw [stepW, if_neg (by rw [HK.out]; decide), if_pos HK.out]
  exact ⟨_, _, rfl, World.ownsRow_nil _ _ _ _, World.ownsRow_nil _ _ _ _, HB.out.trans' HG1.out, HW1.out⟩
set_option maxHeartbeats 1000000 in
theorem perform2 (b g : Nat) (s : Int) (l : List Ofr) (o : Op') (w : World) (h : Win w b s l g) (hl : l.length ≤ 100000) (hgb : g ≠ b) (hok : OkL l) (hk : knd o = 2) :
    Calls Try.prog 23 #[.pointer (some ⟨b, 0, none⟩), .agg (opc o).toArray] w fun e w' => PPost b w (stepW s l o) e w' := by
  have hkl := o.kind.toNat_lt
  have hr := rem5 o.kind.toNat (by omega) 2 hk
  have HK := Lib.hid hk
  have HOK := Lib.hid hok
  have HW := Lib.hid (h.below (bnew w (.cells (opc o).toArray 51)))
  have hp := Blk.new w 51 (opc o).toArray
  have HP := Lib.hid hp
  have hlb := h.cells.1
  have c0 := (hp.cell 0).trans (by rw [List.getElem?_toArray, opc_0])
  have c33 := (hp.cell 33).trans (by rw [List.getElem?_toArray, opc_33])
  have HL := Lib.hid hlb
  have HB := Lib.hid ((bnew w (.cells (opc o).toArray 51)).grownBy (some b))
  clear h hp hlb hk hok
  go_enter Try.func23, Try.ntmps23
  go_wp2_with (first
    | (go_at_call 13; with_reducible refine (settled_any b g s l _ HW.out hl hgb).mono ?_; rintro e w1 ⟨v, rfl, ho1, hg1, hw1⟩; have HO1 := Lib.hid ho1; have HG1 := Lib.hid hg1; have HW1 := Lib.hid hw1; clear ho1 hg1 hw1))
  go_ret3
  rw [stepW, if_neg (by rw [HK.out]; decide), if_neg (by rw [HK.out]; decide), if_pos HK.out]
  exact ⟨_, _, rfl, ownsRow_base HO1.out HB.out.size, World.ownsRow_nil _ _ _ _, HB.out.trans' HG1.out, HW1.out⟩
set_option maxHeartbeats 1000000 in
theorem perform3 (b g : Nat) (s : Int) (l : List Ofr) (o : Op') (w : World) (h : Win w b s l g) (hl : l.length ≤ 100000) (hgb : g ≠ b) (hok : OkL l) (hk : knd o = 3) :
    Calls Try.prog 23 #[.pointer (some ⟨b, 0, none⟩), .agg (opc o).toArray] w fun e w' => PPost b w (stepW s l o) e w' := by
  have hkl := o.kind.toNat_lt
  have hr := rem5 o.kind.toNat (by omega) 3 hk
  have HK := Lib.hid hk
  have HOK := Lib.hid hok
  have HW := Lib.hid (h.below (bnew w (.cells (opc o).toArray 51)))
  have hp := Blk.new w 51 (opc o).toArray
  have HP := Lib.hid hp
  have hlb := h.cells.1
  have c0 := (hp.cell 0).trans (by rw [List.getElem?_toArray, opc_0])
  have c33 := (hp.cell 33).trans (by rw [List.getElem?_toArray, opc_33])
  have HL := Lib.hid hlb
  have HB := Lib.hid ((bnew w (.cells (opc o).toArray 51)).grownBy (some b))
  clear h hp hlb hk hok
  go_enter Try.func23, Try.ntmps23
  go_wp2_with (first
    | (go_at_call 25; with_reducible refine (drop_any b g s l _ HW.out hl hgb).mono ?_; rintro e w1 ⟨v, rfl, ho1, hg1, hw1⟩; have HO1 := Lib.hid ho1; have HG1 := Lib.hid hg1; have HW1 := Lib.hid hw1; clear ho1 hg1 hw1))
  go_ret3
  rw [stepW, if_neg (by rw [HK.out]; decide), if_neg (by rw [HK.out]; decide), if_neg (by rw [HK.out]; decide), if_pos HK.out]
  exact ⟨_, _, rfl, World.ownsRow_nil _ _ _ _, ownsRow_base HO1.out HB.out.size, HB.out.trans' HG1.out, HW1.out⟩
set_option maxHeartbeats 1000000 in
theorem perform4 (b g : Nat) (s : Int) (l : List Ofr) (o : Op') (w : World) (h : Win w b s l g) (hl : l.length ≤ 100000) (hgb : g ≠ b) (hok : OkL l) (hk : knd o = 4) :
    Calls Try.prog 23 #[.pointer (some ⟨b, 0, none⟩), .agg (opc o).toArray] w fun e w' => PPost b w (stepW s l o) e w' := by
  have hkl := o.kind.toNat_lt
  have hr := rem5 o.kind.toNat (by omega) 4 hk
  have HK := Lib.hid hk
  have HOK := Lib.hid hok
  have HW := Lib.hid (h.below (bnew w (.cells (opc o).toArray 51)))
  have hp := Blk.new w 51 (opc o).toArray
  have HP := Lib.hid hp
  have hlb := h.cells.1
  have c0 := (hp.cell 0).trans (by rw [List.getElem?_toArray, opc_0])
  have c33 := (hp.cell 33).trans (by rw [List.getElem?_toArray, opc_33])
  have HL := Lib.hid hlb
  have HB := Lib.hid ((bnew w (.cells (opc o).toArray 51)).grownBy (some b))
  clear h hp hlb hk hok
  go_enter Try.func23, Try.ntmps23
  go_wp2_with (first
    | (go_at_call 20; with_reducible refine (resize_any b g s o.n l _ HW.out hgb).mono ?_; rintro e w1 ⟨rfl, hw1, hg1⟩; have HG1 := Lib.hid hg1; have HW1 := Lib.hid hw1; clear hg1 hw1))
  go_ret3
  rw [stepW, if_neg (by rw [HK.out]; decide), if_neg (by rw [HK.out]; decide), if_neg (by rw [HK.out]; decide), if_neg (by rw [HK.out]; decide)]
  exact ⟨_, _, rfl, World.ownsRow_nil _ _ _ _, World.ownsRow_nil _ _ _ _, HB.out.trans' HG1.out, g, HW1.out, hgb⟩

theorem knd_lt (o : Op') : knd o < 5 := Nat.mod_lt _ (by decide)
theorem perform_any (b g : Nat) (s : Int) (l : List Ofr) (o : Op') (w : World) (h : Win w b s l g) (hl : l.length ≤ 100000) (hgb : g ≠ b) (hok : OkL l) :
    Calls Try.prog 23 #[.pointer (some ⟨b, 0, none⟩), .agg (opc o).toArray] w fun e w' => PPost b w (stepW s l o) e w' := by
  have := knd_lt o
  rcases (by omega : knd o = 0 ∨ knd o = 1 ∨ knd o = 2 ∨ knd o = 3 ∨ knd o = 4) with hk | hk | hk | hk | hk
  · exact perform0 b g s l o w h hl hgb hok hk
  · exact perform1 b g s l o w h hl hgb hok hk
  · exact perform2 b g s l o w h hl hgb hok hk
  · exact perform3 b g s l o w h hl hgb hok hk
  · exact perform4 b g s l o w h hl hgb hok hk

/-! ### what a step keeps -/
theorem okL_offL {s : Int} {l : List Ofr} {i : Id} {n : Int} (h : OkL l) : OkL (offL s l i n) := by
  unfold offL
  split
  · exact h
  · split
    · exact h
    · split
      · exact h
      · intro o ho
        rcases List.mem_append.1 ho with ho | ho
        · exact h o ho
        · obtain rfl : o = ⟨i, n, 0⟩ := by simpa using ho
          exact ⟨by simp, by simp⟩
theorem okL_ansL {l : List Ofr} {i : Id} {o : Int} (h : OkL l) : OkL (ansL l i o) := by
  unfold ansL
  split
  · exact h
  · split
    · exact h
    · split
      · intro x hx
        rcases List.mem_or_eq_of_mem_set hx with hx | rfl
        · exact h x hx
        · simp only; omega
      · exact h
theorem okL_step {s : Int} {l : List Ofr} {o : Op'} (h : OkL l) : OkL (stepW s l o).offers := by
  unfold stepW
  split
  · exact okL_offL h
  · split
    · exact okL_ansL h
    · split
      · exact fun x hx => h x (List.mem_of_mem_drop hx)
      · split
        · exact fun x hx => h x (List.mem_filter.1 hx).1
        · exact h
theorem len_step (s : Int) (l : List Ofr) (o : Op') : (stepW s l o).offers.length ≤ l.length + 1 := by
  unfold stepW
  split
  · simp only [offL]; split <;> (try split) <;> (try split) <;> simp
  · split
    · simp only [ansL]; split <;> (try split) <;> (try split) <;> simp
    · split
      · simp; omega
      · split
        · have := keepL_le l; simp only; omega
        · simp
end Go.Proofs.Ytbcejdmgdgghfaa
