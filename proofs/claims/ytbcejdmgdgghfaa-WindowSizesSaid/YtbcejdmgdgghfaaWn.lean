/- WindowSizes: for any number, New and Resize accept the sizes from 1 to 64 only. No condition. -/
import Derived.Test.YtbcejdmgdgghfaaWm
import Derived.Test.YtbcejdmgdgghfaaPost
namespace Go.Proofs.Ytbcejdmgdgghfaa
open Go.ChangeShapes Go.WideShapes Go.ChangeAt Go.RowKit

set_option maxHeartbeats 1000000 in
theorem sizes_bad (n : Int) (hv : validB n = false) (w : World) : Calls Try.prog 4 #[.int .i64 n] w fun e w' => e = .returned (.bool true) ∧ Below w.heap.size w w' := by
  have HV := Lib.hid hv
  have hn : n < 1 ∨ 64 < n := by
    simp only [validB, Bool.and_eq_false_iff, decide_eq_false_iff_not] at hv
    omega
  clear hv
  rcases hn with hn | hn
  all_goals
    go_enter Try.func4, Try.ntmps4
    go_wp2_with (first
      | (go_at_call 11; with_reducible refine (known_any w).mono ?_; rintro e w1 ⟨rfl, hb1⟩; have HB1 := Lib.hid hb1; clear hb1)
      | (go_at_call 12; with_reducible refine (new_bad n w1 HV.out).mono ?_; rintro e w2 ⟨rfl, rfl⟩)
      | (go_at_call 12; with_reducible refine (new_ok 7 w1 (by decide)).mono ?_; rintro e w2 ⟨rfl, hw2, he2⟩; have HW2 := Lib.hid hw2; have HB2 := Lib.hid (show Below w1.heap.size w1 w2 from (by rw [he2]; exact bnew w1 _)); clear hw2 he2)
      | (go_at_call 20; with_reducible refine (resize_any w1.heap.size (w1.heap.size + 1) 7 n [] w2 HW2.out.nil_at (by omega)).mono ?_; rintro e w3 ⟨he, hw3, hg3⟩; rw [show errV n = 2 by simp [errV, HV.out]] at he; subst he; rw [HV.out, if_neg (by simp)] at hw3; have HW3 := Lib.hid hw3; have HG3 := Lib.hid hg3; clear hw3 hg3)
      | (go_at_call 21; with_reducible refine (size_any w1.heap.size (w1.heap.size + 1) 7 [] w3 HW3.out).mono ?_; rintro e w4 ⟨rfl, rfl⟩))
    go_ret
    exact ⟨rfl, (HB1.out.trans (HB2.out.mono HB1.out.size)).grown HG3.out (Nat.le_trans HB1.out.size HB2.out.size) (fun k hk => by simp at hk; have := HB1.out.size; omega)⟩

set_option maxHeartbeats 1000000 in
theorem sizes_ok (n : Int) (hv : validB n = true) (w : World) : Calls Try.prog 4 #[.int .i64 n] w fun e w' => e = .returned (.bool true) ∧ Below w.heap.size w w' := by
  have HV := Lib.hid hv
  have hn : 1 ≤ n ∧ n ≤ 64 := by simpa [validB] using hv
  obtain ⟨hn1, hn2⟩ := hn
  have hroom : roomOf n [] = n := by simp [roomOf, outs]; omega
  have HR := Lib.hid hroom
  clear hv hroom
  go_enter Try.func4, Try.ntmps4
  go_wp2_with (first
    | (go_at_call 11; with_reducible refine (known_any w).mono ?_; rintro e w1 ⟨rfl, hb1⟩; have HB1 := Lib.hid hb1; clear hb1)
    | (go_at_call 12; with_reducible refine (new_ok n w1 HV.out).mono ?_; rintro e w2 ⟨rfl, hw2, he2⟩; have HW2 := Lib.hid hw2; have HB2 := Lib.hid (show Below w1.heap.size w1 w2 from (by rw [he2]; exact bnew w1 _)); have hz2 : w2.heap.size = w1.heap.size + 1 := (by rw [he2]; simp); have HZ2 := Lib.hid hz2; clear hw2 he2 hz2)
    | (go_at_call 12; with_reducible refine (new_ok 7 w2 (by decide)).mono ?_; rintro e w3 ⟨rfl, hw3, he3⟩; have HW3 := Lib.hid hw3; have HB3 := Lib.hid (show Below w2.heap.size w2 w3 from (by rw [he3]; exact bnew w2 _)); clear hw3 he3)
    | (go_at_call 20; with_reducible refine (resize_any w2.heap.size (w2.heap.size + 1) 7 n [] w3 HW3.out.nil_at (by omega)).mono ?_; rintro e w4 ⟨he, hw4, hg4⟩; rw [show errV n = 0 by simp [errV, HV.out]] at he; subst he; rw [HV.out, if_pos rfl] at hw4; have HW4 := Lib.hid hw4; have HG4 := Lib.hid hg4; have HX4 := Lib.hid ((HW2.out.nil_at (g' := w2.heap.size + 1)).below HB3.out |>.grown hg4 (by have := HZ2.out; simp; omega) (by simp)); clear hw4 hg4)
    | (go_at_call 21; with_reducible refine (size_any w1.heap.size (w2.heap.size + 1) n [] w4 HX4.out).mono ?_; rintro e w5 ⟨rfl, rfl⟩)
    | (go_at_call 22; with_reducible refine (room_any w1.heap.size (w2.heap.size + 1) n [] w4 HX4.out (by decide) (by omega) (by omega)).mono ?_; rintro e w5 ⟨he, hb5⟩; rw [HR.out] at he; subst he; have HB5 := Lib.hid hb5; have HX5 := Lib.hid (HX4.out.below hb5); have HW5 := Lib.hid (HW4.out.below hb5); clear hb5)
    | (go_at_call 19; with_reducible refine (len_any w1.heap.size (w2.heap.size + 1) n [] w5 HX5.out).mono ?_; rintro e w6 ⟨rfl, rfl⟩)
    | (go_at_call 21; with_reducible refine (size_any w2.heap.size (w2.heap.size + 1) n [] w5 HW5.out).mono ?_; rintro e w6 ⟨rfl, rfl⟩))
  go_ret
  exact ⟨rfl, (((HB1.out.trans (HB2.out.mono HB1.out.size)).trans (HB3.out.mono (Nat.le_trans HB1.out.size HB2.out.size))).grown HG4.out (by have := HB1.out.size; have := HB2.out.size; have := HB3.out.size; omega) (fun k hk => by simp at hk; have := HB1.out.size; have := HB2.out.size; omega)).trans (HB5.out.mono (by have := HB1.out.size; have := HB2.out.size; have := HB3.out.size; have := HG4.out.size; omega))⟩
theorem sizes_any (n : Int) (w : World) : Calls Try.prog 4 #[.int .i64 n] w fun e w' => e = .returned (.bool true) ∧ Below w.heap.size w w' := by
  cases hv : validB n with
  | false => exact sizes_bad n hv w
  | true => exact sizes_ok n hv w
end Go.Proofs.Ytbcejdmgdgghfaa
