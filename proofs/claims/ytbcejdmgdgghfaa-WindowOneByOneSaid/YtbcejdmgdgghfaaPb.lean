/- Contract of final; an offer of the law as cells. Conditions: none. -/
import Derived.Test.YtbcejdmgdgghfaaPa
namespace Go.Proofs.Ytbcejdmgdgghfaa
set_option linter.unusedSimpArgs false
set_option linter.unusedVariables false
set_option linter.unnecessarySimpa false
open Go.RowKit

def ofc (o : Of) : List Value := [.int .u8 o.first.toNat, .int .u8 o.then_.toNat]
theorem ofc_len (o : Of) : (ofc o).length = 2 := rfl
theorem info3 : (Try.prog.info? 3).map (fun i => (i.zero, i.size, i.bytes)) = some (some (.int .i64 0), 1, 8) := by kernel_rfl
def ints (l : List Int) : List Value := l.map (Value.int .i64)
theorem rem4 (k : Nat) : ∀ j : Nat, k % 4 = j → (k : Int).tmod 4 = j := by
  intro j hj
  subst hj
  rw [Int.tmod_eq_emod_of_nonneg (by omega)]
  omega
theorem rem3 (k : Nat) : ∀ j : Nat, k % 3 = j → (k : Int).tmod 3 = j := by
  intro j hj
  subst hj
  rw [Int.tmod_eq_emod_of_nonneg (by omega)]
  omega
theorem own_lit (w : World) (l : List Int) (hl : l.length ≤ 100) : (w.alloc (.cells (ints l).toArray 3)).ownsRow w.heap.size 3 1 (.slice (some ⟨w.heap.size, 0, none⟩) l.length l.length) l.length (ints l) :=
  ⟨by simp [ints], .inr ⟨w.heap.size, l.length, (ints l).toArray, rfl, Nat.le_refl _, heap_alloc_new w _, Nat.le_refl _, by simp only [maxLen]; omega, by simp [ints], by simp [ints]; rw [List.take_of_length_le (by simp)]⟩⟩
theorem flatc_ints (l : List Int) : flatc (ints l) = ints l := by
  induction l with
  | nil => rfl
  | cons x l ih => simp only [flatc, ints, List.map_cons, List.flatMap_cons] at ih ⊢; rw [ih]; rfl
/-- what final leaves -/
def FPost (w : World) (o : Of) (e : Ending) (w' : World) : Prop :=
  ∃ v, e = .returned (.tuple #[.int .i64 (finOf o), v]) ∧ w'.ownsRow w.heap.size 3 1 v (ansOf o).length (ints (ansOf o)) ∧ Below w.heap.size w w'
theorem final_any (o : Of) (w : World) : Calls Try.prog 16 #[.agg (ofc o).toArray] w (FPost w o) := by
  show Calls Try.prog 16 #[.agg #[.int .u8 o.first.toNat, .int .u8 o.then_.toNat]] w (FPost w o)
  obtain ⟨i0, hi0, hz0, hz1, hz2⟩ := info_parts info3
  have hlt1 := o.first.toNat_lt
  have hlt2 := o.then_.toNat_lt
  by_cases h0 : o.first.toNat % 4 = 0
  · have hr := rem4 _ _ h0
    have hf : firstOf o = 1 := by simp [firstOf, h0]
    have HFIN : Hid (finOf o = thenOf o) := Lib.hid (by simp [finOf, hf])
    have HANS : Hid (ansOf o = [1, thenOf o]) := Lib.hid (by simp [ansOf, hf])
    rcases (by omega : o.then_.toNat % 3 = 0 ∨ o.then_.toNat % 3 = 1 ∨ o.then_.toNat % 3 = 2) with h | h | h
    · have hr3 := rem3 _ _ h
      have HTH : Hid (thenOf o = 2) := Lib.hid (by simp [thenOf, h])
      clear hf h0 h
      go_enter Try.func16, Try.ntmps16
      go_wp2_with (first
        | ((with_reducible refine at_dst 6 ?_); refine wpList_buildSlice rfl 31 4 _ rfl 3 i0 (.int .i64 0) 1 Try.underlying31 hi0 hz0 hz1 (ints [1, 3, 4, 5]) rfl (by simp [numbered, ints, Act.eval]) (by simp [ints, Value.cells]) (by simp [ints]) ?_; rw [flatc_ints]; simp only [ints, List.map_cons, List.map_nil, List.length_cons, List.length_nil, Nat.zero_add, Nat.reduceAdd])
        | ((with_reducible refine at_dst 17 ?_); refine wpList_buildSlice rfl 31 3 _ rfl 3 i0 (.int .i64 0) 1 Try.underlying31 hi0 hz0 hz1 (ints [2, 4, 5]) rfl (by simp [numbered, ints, Act.eval]) (by simp [ints, Value.cells]) (by simp [ints]) ?_; rw [flatc_ints]; simp only [ints, List.map_cons, List.map_nil, List.length_cons, List.length_nil, Nat.zero_add, Nat.reduceAdd])
        | ((with_reducible refine at_dst 25 ?_); refine wpList_buildSlice rfl 31 2 _ rfl 3 i0 (.int .i64 0) 1 Try.underlying31 hi0 hz0 hz1 (ints [1, 2]) rfl (by simp [numbered, ints, Act.eval]) (by simp [ints, Value.cells]) (by simp [ints]) ?_; rw [flatc_ints]; simp only [ints, List.map_cons, List.map_nil, List.length_cons, List.length_nil, Nat.zero_add, Nat.reduceAdd]))
      go_ret2
      refine ⟨_, by rw [HFIN.out, HTH.out]; rfl, ?_, ((bnew _ _).trans' (bnew _ _)).trans' ((bnew _ _).trans' (bnew _ _))⟩
      rw [HANS.out, HTH.out]
      have h := own_lit ((w.alloc (.cells #[.int .u8 o.first.toNat, .int .u8 o.then_.toNat] 40)).alloc (.cells (ints [1, 3, 4, 5]).toArray 3) |>.alloc (.cells (ints [2, 4, 5]).toArray 3)) [1, 2] (by decide)
      have h' := ownsRow_base (b' := w.heap.size) h (by simp; omega)
      simpa [ints] using h'
    · have hr3 := rem3 _ _ h
      have HTH : Hid (thenOf o = 4) := Lib.hid (by simp [thenOf, h])
      clear hf h0 h
      go_enter Try.func16, Try.ntmps16
      go_wp2_with (first
        | ((with_reducible refine at_dst 6 ?_); refine wpList_buildSlice rfl 31 4 _ rfl 3 i0 (.int .i64 0) 1 Try.underlying31 hi0 hz0 hz1 (ints [1, 3, 4, 5]) rfl (by simp [numbered, ints, Act.eval]) (by simp [ints, Value.cells]) (by simp [ints]) ?_; rw [flatc_ints]; simp only [ints, List.map_cons, List.map_nil, List.length_cons, List.length_nil, Nat.zero_add, Nat.reduceAdd])
        | ((with_reducible refine at_dst 17 ?_); refine wpList_buildSlice rfl 31 3 _ rfl 3 i0 (.int .i64 0) 1 Try.underlying31 hi0 hz0 hz1 (ints [2, 4, 5]) rfl (by simp [numbered, ints, Act.eval]) (by simp [ints, Value.cells]) (by simp [ints]) ?_; rw [flatc_ints]; simp only [ints, List.map_cons, List.map_nil, List.length_cons, List.length_nil, Nat.zero_add, Nat.reduceAdd])
        | ((with_reducible refine at_dst 25 ?_); refine wpList_buildSlice rfl 31 2 _ rfl 3 i0 (.int .i64 0) 1 Try.underlying31 hi0 hz0 hz1 (ints [1, 4]) rfl (by simp [numbered, ints, Act.eval]) (by simp [ints, Value.cells]) (by simp [ints]) ?_; rw [flatc_ints]; simp only [ints, List.map_cons, List.map_nil, List.length_cons, List.length_nil, Nat.zero_add, Nat.reduceAdd]))
      go_ret2
      refine ⟨_, by rw [HFIN.out, HTH.out]; rfl, ?_, ((bnew _ _).trans' (bnew _ _)).trans' ((bnew _ _).trans' (bnew _ _))⟩
      rw [HANS.out, HTH.out]
      have h := own_lit ((w.alloc (.cells #[.int .u8 o.first.toNat, .int .u8 o.then_.toNat] 40)).alloc (.cells (ints [1, 3, 4, 5]).toArray 3) |>.alloc (.cells (ints [2, 4, 5]).toArray 3)) [1, 4] (by decide)
      have h' := ownsRow_base (b' := w.heap.size) h (by simp; omega)
      simpa [ints] using h'
    · have hr3 := rem3 _ _ h
      have HTH : Hid (thenOf o = 5) := Lib.hid (by simp [thenOf, h])
      clear hf h0 h
      go_enter Try.func16, Try.ntmps16
      go_wp2_with (first
        | ((with_reducible refine at_dst 6 ?_); refine wpList_buildSlice rfl 31 4 _ rfl 3 i0 (.int .i64 0) 1 Try.underlying31 hi0 hz0 hz1 (ints [1, 3, 4, 5]) rfl (by simp [numbered, ints, Act.eval]) (by simp [ints, Value.cells]) (by simp [ints]) ?_; rw [flatc_ints]; simp only [ints, List.map_cons, List.map_nil, List.length_cons, List.length_nil, Nat.zero_add, Nat.reduceAdd])
        | ((with_reducible refine at_dst 17 ?_); refine wpList_buildSlice rfl 31 3 _ rfl 3 i0 (.int .i64 0) 1 Try.underlying31 hi0 hz0 hz1 (ints [2, 4, 5]) rfl (by simp [numbered, ints, Act.eval]) (by simp [ints, Value.cells]) (by simp [ints]) ?_; rw [flatc_ints]; simp only [ints, List.map_cons, List.map_nil, List.length_cons, List.length_nil, Nat.zero_add, Nat.reduceAdd])
        | ((with_reducible refine at_dst 25 ?_); refine wpList_buildSlice rfl 31 2 _ rfl 3 i0 (.int .i64 0) 1 Try.underlying31 hi0 hz0 hz1 (ints [1, 5]) rfl (by simp [numbered, ints, Act.eval]) (by simp [ints, Value.cells]) (by simp [ints]) ?_; rw [flatc_ints]; simp only [ints, List.map_cons, List.map_nil, List.length_cons, List.length_nil, Nat.zero_add, Nat.reduceAdd]))
      go_ret2
      refine ⟨_, by rw [HFIN.out, HTH.out]; rfl, ?_, ((bnew _ _).trans' (bnew _ _)).trans' ((bnew _ _).trans' (bnew _ _))⟩
      rw [HANS.out, HTH.out]
      have h := own_lit ((w.alloc (.cells #[.int .u8 o.first.toNat, .int .u8 o.then_.toNat] 40)).alloc (.cells (ints [1, 3, 4, 5]).toArray 3) |>.alloc (.cells (ints [2, 4, 5]).toArray 3)) [1, 5] (by decide)
      have h' := ownsRow_base (b' := w.heap.size) h (by simp; omega)
      simpa [ints] using h'
  · have h4 : o.first.toNat % 4 < 4 := Nat.mod_lt _ (by decide)
    have hf : firstOf o ≠ 1 := by unfold firstOf; rw [if_neg h0]; split <;> (try split) <;> decide
    have HFIN : Hid (finOf o = firstOf o) := Lib.hid (by simp [finOf, hf])
    have HANS : Hid (ansOf o = [firstOf o]) := Lib.hid (by simp [ansOf, hf])
    rcases (by omega : o.first.toNat % 4 = 1 ∨ o.first.toNat % 4 = 2 ∨ o.first.toNat % 4 = 3) with h | h | h
    · have hr := rem4 _ _ h
      have HTH : Hid (firstOf o = 3) := Lib.hid (by simp [firstOf, h])
      clear hf h0 h h4
      go_enter Try.func16, Try.ntmps16
      go_wp2_with (first
        | ((with_reducible refine at_dst 6 ?_); refine wpList_buildSlice rfl 31 4 _ rfl 3 i0 (.int .i64 0) 1 Try.underlying31 hi0 hz0 hz1 (ints [1, 3, 4, 5]) rfl (by simp [numbered, ints, Act.eval]) (by simp [ints, Value.cells]) (by simp [ints]) ?_; rw [flatc_ints]; simp only [ints, List.map_cons, List.map_nil, List.length_cons, List.length_nil, Nat.zero_add, Nat.reduceAdd])
        | ((with_reducible refine at_dst 16 ?_); refine wpList_buildSlice rfl 31 1 _ rfl 3 i0 (.int .i64 0) 1 Try.underlying31 hi0 hz0 hz1 (ints [3]) rfl (by simp [numbered, ints, Act.eval]) (by simp [ints, Value.cells]) (by simp [ints]) ?_; rw [flatc_ints]; simp only [ints, List.map_cons, List.map_nil, List.length_cons, List.length_nil, Nat.zero_add, Nat.reduceAdd]))
      go_ret2
      refine ⟨_, by rw [HFIN.out, HTH.out]; rfl, ?_, ((bnew _ _).trans' (bnew _ _)).trans' (bnew _ _)⟩
      rw [HANS.out, HTH.out]
      have h := own_lit ((w.alloc (.cells #[.int .u8 o.first.toNat, .int .u8 o.then_.toNat] 40)).alloc (.cells (ints [1, 3, 4, 5]).toArray 3)) [3] (by decide)
      have h' := ownsRow_base (b' := w.heap.size) h (by simp; omega)
      simpa [ints] using h'
    · have hr := rem4 _ _ h
      have HTH : Hid (firstOf o = 4) := Lib.hid (by simp [firstOf, h])
      clear hf h0 h h4
      go_enter Try.func16, Try.ntmps16
      go_wp2_with (first
        | ((with_reducible refine at_dst 6 ?_); refine wpList_buildSlice rfl 31 4 _ rfl 3 i0 (.int .i64 0) 1 Try.underlying31 hi0 hz0 hz1 (ints [1, 3, 4, 5]) rfl (by simp [numbered, ints, Act.eval]) (by simp [ints, Value.cells]) (by simp [ints]) ?_; rw [flatc_ints]; simp only [ints, List.map_cons, List.map_nil, List.length_cons, List.length_nil, Nat.zero_add, Nat.reduceAdd])
        | ((with_reducible refine at_dst 16 ?_); refine wpList_buildSlice rfl 31 1 _ rfl 3 i0 (.int .i64 0) 1 Try.underlying31 hi0 hz0 hz1 (ints [4]) rfl (by simp [numbered, ints, Act.eval]) (by simp [ints, Value.cells]) (by simp [ints]) ?_; rw [flatc_ints]; simp only [ints, List.map_cons, List.map_nil, List.length_cons, List.length_nil, Nat.zero_add, Nat.reduceAdd]))
      go_ret2
      refine ⟨_, by rw [HFIN.out, HTH.out]; rfl, ?_, ((bnew _ _).trans' (bnew _ _)).trans' (bnew _ _)⟩
      rw [HANS.out, HTH.out]
      have h := own_lit ((w.alloc (.cells #[.int .u8 o.first.toNat, .int .u8 o.then_.toNat] 40)).alloc (.cells (ints [1, 3, 4, 5]).toArray 3)) [4] (by decide)
      have h' := ownsRow_base (b' := w.heap.size) h (by simp; omega)
      simpa [ints] using h'
    · have hr := rem4 _ _ h
      have HTH : Hid (firstOf o = 5) := Lib.hid (by simp [firstOf, h])
      clear hf h0 h h4
      go_enter Try.func16, Try.ntmps16
      go_wp2_with (first
        | ((with_reducible refine at_dst 6 ?_); refine wpList_buildSlice rfl 31 4 _ rfl 3 i0 (.int .i64 0) 1 Try.underlying31 hi0 hz0 hz1 (ints [1, 3, 4, 5]) rfl (by simp [numbered, ints, Act.eval]) (by simp [ints, Value.cells]) (by simp [ints]) ?_; rw [flatc_ints]; simp only [ints, List.map_cons, List.map_nil, List.length_cons, List.length_nil, Nat.zero_add, Nat.reduceAdd])
        | ((with_reducible refine at_dst 16 ?_); refine wpList_buildSlice rfl 31 1 _ rfl 3 i0 (.int .i64 0) 1 Try.underlying31 hi0 hz0 hz1 (ints [5]) rfl (by simp [numbered, ints, Act.eval]) (by simp [ints, Value.cells]) (by simp [ints]) ?_; rw [flatc_ints]; simp only [ints, List.map_cons, List.map_nil, List.length_cons, List.length_nil, Nat.zero_add, Nat.reduceAdd]))
      go_ret2
      refine ⟨_, by rw [HFIN.out, HTH.out]; rfl, ?_, ((bnew _ _).trans' (bnew _ _)).trans' (bnew _ _)⟩
      rw [HANS.out, HTH.out]
      have h := own_lit ((w.alloc (.cells #[.int .u8 o.first.toNat, .int .u8 o.then_.toNat] 40)).alloc (.cells (ints [1, 3, 4, 5]).toArray 3)) [5] (by decide)
      have h' := ownsRow_base (b' := w.heap.size) h (by simp; omega)
      simpa [ints] using h'
end Go.Proofs.Ytbcejdmgdgghfaa
