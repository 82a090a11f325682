/- WindowNil: a nil window returns ErrArgument and zero values: the walk. Arguments of an identity, and of lists of operations, opened. No condition. -/
import Derived.Test.YtbcejdmgdgghfaaWm
import Derived.Test.YtbcejdmgdgghfaaPost
import Derived.Deep.Cut
namespace Go.Proofs.Ytbcejdmgdgghfaa
set_option linter.unusedSimpArgs false
set_option linter.unusedVariables false
set_option linter.unnecessarySimpa false
open Go.ChangeShapes Go.WideShapes Go.ChangeAt Go.RowKit

set_option maxHeartbeats 1000000 in
theorem nil_walk (i : Id) (n : Int) (w : World) : Calls Try.prog 10 #[.agg (idc i).toArray, .int .i64 n] w fun e w' => e = .returned (.bool true) ∧ Below w.heap.size w w' := by
  have HP := Lib.hid (Blk.new w 37 (idc i).toArray)
  have HB0 := Lib.hid (bnew w (.cells (idc i).toArray 37))
  go_enter Try.func10, Try.ntmps10
  go_upto_region 6 with (first
    | (go_at_call 11; with_reducible refine (known_any _).mono ?_; rintro e w1 ⟨rfl, hb1⟩; have HB1 := Lib.hid (HB0.out.trans' hb1); have HP1 := Lib.hid (HP.out.below hb1); clear hb1)
    | (with_reducible refine at_dst 14 ?_; refine wpList_ld (by simp [Region.wanted, yielded]) (.tmp 2) rfl w.heap.size i (by kernel_rfl) HP1.out ?_)
    | (go_at_call 28; with_reducible refine (outcome_nil i w1).mono ?_; rintro e w2 ⟨rfl, hb2⟩; have HB2 := Lib.hid (HB1.out.trans' hb2); have HP2 := Lib.hid (HP1.out.below hb2); clear hb2)
    | (go_at_call 12; with_reducible refine (new_ok 3 w2 (by decide)).mono ?_; rintro e w3 ⟨rfl, hw3, he3⟩; have hb3 : Below w2.heap.size w2 w3 := (by rw [he3]; exact bnew w2 _); have HB3 := Lib.hid (HB2.out.trans' hb3); have HP3 := Lib.hid (HP2.out.below hb3); clear hw3 he3 hb3))
  simp only [List.append_eq, List.cons_append, List.nil_append]
  go_wp2_with (first
    | (with_reducible refine at_dst 23 ?_; refine wpList_ld (by simp [Region.wanted, yielded]) (.tmp 2) rfl w.heap.size i (by kernel_rfl) HP3.out ?_)
    | (go_at_call 15; with_reducible refine (offer_nil i n w3).mono ?_; rintro e w4 ⟨rfl, hb4⟩; have HB4 := Lib.hid (HB3.out.trans' hb4); have HP4 := Lib.hid (HP3.out.below hb4); clear hb4)
    | (with_reducible refine at_dst 29 ?_; refine wpList_ld (by simp [Region.wanted, yielded]) (.tmp 2) rfl w.heap.size i (by kernel_rfl) HP4.out ?_)
    | (go_at_call 17; with_reducible refine (answer_nil i n w4).mono ?_; rintro e w5 ⟨rfl, hb5⟩; have HB5 := Lib.hid (HB4.out.trans' hb5); clear hb5)
    | (go_at_call 20; with_reducible refine (resize_nil n _).mono ?_; rintro e w6 ⟨rfl, rfl⟩)
    | (go_at_call 14; with_reducible refine (outstanding_nil _).mono ?_; rintro e w6 ⟨rfl, rfl⟩)
    | (go_at_call 22; with_reducible refine (room_nil w5).mono ?_; rintro e w6 ⟨rfl, hb6⟩; have HB6 := Lib.hid (HB5.out.trans' hb6); clear hb6)
    | (go_at_call 13; with_reducible refine (settled_nil _).mono ?_; rintro e w7 ⟨rfl, rfl⟩)
    | (go_at_call 25; with_reducible refine (drop_nil _).mono ?_; rintro e w7 ⟨rfl, rfl⟩)
    | (go_at_call 19; with_reducible refine (len_nil _).mono ?_; rintro e w7 ⟨rfl, rfl⟩)
    | (go_at_call 21; with_reducible refine (size_nil _).mono ?_; rintro e w7 ⟨rfl, rfl⟩)
    | (go_at_call 29; with_reducible refine (wclone_nil _).mono ?_; rintro e w7 ⟨rfl, rfl⟩)
    | (go_at_call 32; with_reducible refine (equal_nils _).mono ?_; rintro e w7 ⟨rfl, rfl⟩)
    | (go_at_call 32; with_reducible refine (equal_nil1 _ _).mono ?_; rintro e w7 ⟨rfl, rfl⟩)
    | (go_at_call 32; with_reducible refine (equal_nil2 _ _).mono ?_; rintro e w7 ⟨rfl, rfl⟩))
  go_ret
  exact ⟨rfl, HB6.out⟩

/-! ### arguments -/
theorem bytes_of_ints : ∀ (n : Nat) (cs : List Value), Ints (List.replicate n .u8) cs → ∃ bs : List UInt8, bs.length = n ∧ cs = bs.map fun b => .int .u8 b.toNat
  | 0, [], _ => ⟨[], rfl, rfl⟩
  | n + 1, v :: vs, h => by
    obtain ⟨⟨z, rfl, hw⟩, h2⟩ := h
    obtain ⟨bs, h3, rfl⟩ := bytes_of_ints n vs h2
    have hz : 0 ≤ z ∧ z ≤ 255 := by
      have e1 : IntKind.u8.min = 0 := rfl
      have e2 : IntKind.u8.max = 255 := rfl
      simpa [Lit.wf, e1, e2] using hw
    obtain ⟨k, rfl⟩ := Int.eq_ofNat_of_zero_le hz.1
    have hk : (UInt8.ofNat k).toNat = k := by simp; omega
    exact ⟨UInt8.ofNat k :: bs, by simp [h3], by simp [hk]⟩
  | 0, _ :: _, h => h.elim
  | _ + 1, [], h => h.elim
theorem id_of_ints {cs : List Value} (h : Ints (List.replicate 32 .u8) cs) : ∃ i : Id, cs = idc i := by
  obtain ⟨bs, h1, h2⟩ := bytes_of_ints 32 cs h
  exact ⟨⟨bs, h1⟩, h2⟩
theorem flat37 : flatK Try.prog 3 37 = some (List.replicate 32 .u8) := by kernel_rfl
theorem flat51 : flatK Try.prog 4 51 = some (.u8 :: (List.replicate 32 .u8 ++ [.i64])) := by kernel_rfl
theorem open_id {H : Type} {enc : TypeId × Value → H} {w : World} {base : Nat} {sp : Nat → Bool} {held : Bool} {v : Value} {d : DataW H} {ps : List MemPlace} (h : DataW.Trod enc Try.prog w base sp held 37 v d ps) : ∃ i : Id, v = .agg (idc i).toArray := by
  obtain ⟨fuel, hf⟩ := h
  obtain ⟨i, hi⟩ := id_of_ints (flat_trod 3 37 _ flat37 _ _ _ hf)
  refine ⟨i, ?_⟩
  have hl : v.cells.size = 32 := by rw [← Array.length_toList, hi, idc_len]
  cases v with
  | agg cs => simp only [Value.cells] at hi; rw [← hi]
  | _ => simp [Value.cells] at hl
theorem open_i64 {H : Type} {enc : TypeId × Value → H} {w : World} {base : Nat} {sp : Nat → Bool} {held : Bool} {v : Value} {d : DataW H} {ps : List MemPlace} {r : Reach} {b0 : Nat} (hval : Value.okWide Try.prog w r b0 3 v) (h : DataW.Trod enc Try.prog w base sp held 3 v d ps) : ∃ n, v = .int .i64 n ∧ (Lit.int .i64 n).wf = true := by
  obtain ⟨a0, rfl, _, _, w0⟩ := open_int Try.underlying3 hval h
  exact ⟨a0, rfl, w0⟩
end Go.Proofs.Ytbcejdmgdgghfaa
