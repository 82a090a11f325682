/- Contract of slices.DeleteFunc at the window's predicate, over a row of the call's own. Conditions: at most 100,000 offers. -/
import Derived.Test.YtbcejdmgdgghfaaWj
namespace Go.Proofs.Ytbcejdmgdgghfaa
set_option linter.unusedSimpArgs false
set_option linter.unusedVariables false
set_option linter.unnecessarySimpa false
open Go.RowKit

def keepL (l : List Ofr) : List Ofr := l.filter fun o => !outB o
theorem keepL_take (l : List Ofr) (k : Nat) (hk : k < l.length) : keepL (l.take (k + 1)) = keepL (l.take k) ++ (if outB l[k] then [] else [l[k]]) := by
  rw [List.take_succ_eq_append_getElem hk, keepL, List.filter_append]
  cases h : outB l[k] <;> simp [keepL, h]
theorem keepL_le (l : List Ofr) : (keepL l).length ≤ l.length := List.length_filter_le _ _
/-- where the search ends -/
theorem idx_keep : ∀ (l : List Ofr) (s : Int), 0 ≤ s → (idxI outB l s = -1 ∧ keepL l = l) ∨ ∃ k, ∃ (hk : k < l.length), idxI outB l s = s + k ∧ outB l[k] = true ∧ keepL (l.take k) = l.take k
  | [], s, _ => .inl ⟨rfl, rfl⟩
  | x :: l, s, hs => by
    cases h : outB x
    · rcases idx_keep l (s + 1) (by omega) with ⟨h1, h2⟩ | ⟨k, hk, h1, h2, h3⟩
      · exact .inl ⟨by simp [idxI, h, h1], by simp only [keepL] at h2; simp [keepL, h, h2]⟩
      · refine .inr ⟨k + 1, by simpa using hk, by simp [idxI, h, h1]; omega, by simpa using h2, ?_⟩
        simp only [keepL] at h3
        simp [keepL, h, h3]
    · exact .inr ⟨0, by simp, by simp [idxI, h], by simpa using h, by simp [keepL]⟩

theorem flatMap_splice {α : Type} {f : α → List Value} {size : Nat} (hf : ∀ x, (f x).length = size) : ∀ (l : List α) (k : Nat) (hk : k < l.length) (y : α), (l.flatMap f).take (k * size) ++ f y ++ (l.flatMap f).drop (k * size + (f y).length) = (l.set k y).flatMap f
  | x :: l, 0, hk, y => by simp [hf]
  | x :: l, k + 1, hk, y => by
    simp only [List.flatMap_cons, List.set_cons_succ]
    rw [← flatMap_splice hf l k (by simpa using hk) y, List.take_append, List.take_of_length_le (by rw [hf, Nat.add_mul]; omega), List.drop_append, List.drop_of_length_le (by rw [hf, Nat.add_mul]; omega), hf]
    have e1 : (k + 1) * size - size = k * size := by rw [Nat.add_mul]; omega
    have e2 : (k + 1) * size + (f y).length - size = k * size + (f y).length := by rw [Nat.add_mul]; omega
    rw [e1, e2]
    simp

/-- the row of a round: its first i are the kept ones of the first j -/
structure DelRow (l r : List Ofr) (i j : Nat) : Prop where
  len : r.length = l.length
  lt : i < j
  le : j ≤ l.length
  head : r.take i = keepL (l.take j)
  tail : r.drop j = l.drop j
theorem DelRow.at_ {l r : List Ofr} {i j : Nat} (h : DelRow l r i j) (hj : j < l.length) : r[j]'(by rw [h.len]; exact hj) = l[j] := by
  have := congrArg (·[0]?) h.tail
  simp only [List.getElem?_drop, Nat.add_zero] at this
  rw [List.getElem?_eq_getElem (by rw [h.len]; exact hj), List.getElem?_eq_getElem hj] at this
  injection this
theorem DelRow.drop_ {l r : List Ofr} {i j : Nat} (h : DelRow l r i j) (hj : j < l.length) (ho : outB l[j] = true) : DelRow l r i (j + 1) := by
  refine ⟨h.len, by have := h.lt; omega, hj, ?_, ?_⟩
  · rw [h.head, keepL_take l j hj, ho]; simp
  · have := congrArg (List.drop 1) h.tail
    simpa [List.drop_drop] using this
theorem DelRow.keep_ {l r : List Ofr} {i j : Nat} (h : DelRow l r i j) (hj : j < l.length) (ho : outB l[j] = false) : DelRow l (r.set i l[j]) (i + 1) (j + 1) := by
  have hlt := h.lt
  have hi : i < r.length := by rw [h.len]; omega
  refine ⟨by simp [h.len], by omega, hj, ?_, ?_⟩
  · rw [List.take_succ_eq_append_getElem (by simpa using hi), List.getElem_set_self, keepL_take l j hj, ho, ← h.head]
    rw [if_neg (by simp), List.take_set, List.set_eq_of_length_le (by rw [List.length_take]; omega)]
  · rw [List.drop_set_of_lt (by omega)]
    have := congrArg (List.drop 1) h.tail
    simpa [List.drop_drop] using this

set_option maxHeartbeats 2000000 in
theorem delete_none (l : List Ofr) (g c base : Nat) (A : Option Addr) (w : World) (h : w.ownsRow base 81 34 (.slice A l.length c) l.length (l.flatMap ofrc)) (hl : l.length ≤ 100000) (hi : idxI outB l 0 = -1) :
    Calls Try.prog 41 #[.slice A l.length c, .func (.func 37) #[] #[]] w fun e w' => e = .returned (.slice A l.length c) ∧ Below w.heap.size w w' := by
  obtain ⟨g, hr, _, _⟩ := Rd.own h
  have HR := Lib.hid hr
  have HI := Lib.hid hi
  clear hr h hi
  go_enter Try.func41, Try.ntmps41
  go_wp2_with (go_at_call 36; refine (idx_out l g _ c A w HR.out rfl hl).mono ?_; rintro e w1 ⟨he, hb1⟩; obtain rfl := he.trans (congrArg (fun n => Ending.returned (.int .i64 n)) HI.out); clear he; have HB1 := Lib.hid hb1; clear hb1)
  go_ret
  exact ⟨rfl, HB1.out⟩

set_option maxHeartbeats 4000000 in
theorem delete_some (l : List Ofr) (g c base k : Nat) (w : World) (h : w.ownsRow base 81 34 (.slice (some ⟨g, 0, none⟩) l.length c) l.length (l.flatMap ofrc)) (hl : l.length ≤ 100000) (hi : idxI outB l 0 = k) (hk : k < l.length) (ho : outB l[k] = true) (hkeep : keepL (l.take k) = l.take k) (hlc : l.length ≤ c) :
    Calls Try.prog 41 #[.slice (some ⟨g, 0, none⟩) l.length c, .func (.func 37) #[] #[]] w fun e w' => ∃ c', e = .returned (.slice (some ⟨g, 0, none⟩) (keepL l).length c') ∧ w'.ownsRow base 81 34 (.slice (some ⟨g, 0, none⟩) (keepL l).length c') (keepL l).length ((keepL l).flatMap ofrc) ∧ w.grownBy w' (some g) := by
  obtain ⟨i0, hi0, hz0, hz1, hz2⟩ := info_parts info81
  have HR : Hid (Rd w g 34 (some ⟨g, 0, none⟩) l.length (l.flatMap ofrc)) := Lib.hid (by
    obtain ⟨g', hr, _, _⟩ := Rd.own h
    obtain ⟨_, off, e, _⟩ := hr.2 (by omega)
    injection e with e
    injection e with e1 e2
    subst e1
    exact hr)
  have HI := Lib.hid hi
  have HH := Lib.hid h
  have HD : Hid (DelRow l l k (k + 1)) := Lib.hid ⟨rfl, by omega, hk, by rw [keepL_take l k hk, ho, hkeep]; simp, rfl⟩
  have hkm : ((k : Int) == -1) = false := by rw [beq_eq_false_iff_ne]; omega
  clear h hi
  go_enter Try.func41, Try.ntmps41
  go_wp2_with (go_at_call 36; refine (idx_out l g _ c _ w HR.out rfl hl).mono ?_; rintro e w1 ⟨he, hb1⟩; obtain rfl := he.trans (congrArg (fun n => Ending.returned (.int .i64 n)) HI.out); clear he; have HO1 := Lib.hid (below_kept HH.out hb1); have HB1 := Lib.hid hb1; clear hb1)
  go_loopw [5, 6] (fun si sj wr => ∃ i j : Nat, ∃ r, si = .int .i64 i ∧ sj = .int .i64 j ∧ DelRow l r i j ∧ wr.ownsRow base 81 34 (.slice (some ⟨g, 0, none⟩) l.length c) l.length (r.flatMap ofrc) ∧ w.grownBy wr (some g)) (fun _ j _ => l.length - (intOf j).toNat)
  case atStart => exact ⟨k, k + 1, l, rfl, by go_num, HD.out, HO1.out, HB1.out.grownBy _⟩
  case round =>
    obtain ⟨i, j, r, rfl, rfl, hdr, hown, hgw⟩ := hrel
    have hij := hdr.lt
    have hjl := hdr.le
    by_cases hlt : j < l.length
    · have hrd : Rd wr g 34 (some ⟨g, 0, none⟩) l.length (r.flatMap ofrc) := by
        obtain ⟨g', hr, _, _⟩ := Rd.own hown
        obtain ⟨_, off, e, _⟩ := hr.2 (by omega)
        injection e with e
        injection e with e1 e2
        subst e1
        exact hr
      obtain ⟨hg, off, e, hc⟩ := hrd.elem ofrc_len (k := j) (by rw [hdr.len]; exact hlt) hdr.len.symm
      rw [hdr.at_ hlt] at hc
      injection e with e
      injection e with e1 e2
      subst e2
      have HC := Lib.hid hc
      have HG := Lib.hid hgw
      have HO := Lib.hid hown
      have HDR := Lib.hid hdr
      clear hc hg hgw hown hdr hrd
      cases hp : outB l[j]
      all_goals
        have HP := Lib.hid hp
        clear hp
        go_wp2_with (first
          | (with_reducible refine at_dst 25 ?_; refine wpList_load_cells rfl 81 _ rfl g (0 + j * 34) (ofrc l[j]) (by simp [Act.eval]) _ Try.underlying81 rfl (by rw [ofrc_len]; exact size81) (fun j u hu => HC.out j u hu) ?_)
          | (with_reducible refine at_dst 7 ?_; refine wpList_var 81 (ofrc l[j]) _ Try.underlying81 z81 (by rw [ofrc_len]; exact info81') (by rw [ofrc_len]; exact z81_size) (oneCell_ofrc _) (by simp [Act.put]) rfl ?_)
          | (with_reducible refine at_dst 27 ?_; refine wpList_load_cells rfl 81 _ rfl wr.heap.size 0 (ofrc l[j]) rfl _ Try.underlying81 rfl (by rw [ofrc_len]; exact size81) (fun j u hu => by rw [World.cell?_alloc_new, Nat.zero_add, List.getElem?_toArray]; exact hu) ?_)
          | (go_at_call 37; refine (out_any _ _).mono ?_; rintro e w2 ⟨he, hb2⟩; obtain rfl := he.trans (congrArg (fun b => Ending.returned (.bool b)) HP.out); clear he; have HB2 := Lib.hid hb2; have HW := Lib.hid ((Blk.new wr 81 (ofrc l[j]).toArray).below hb2); have HO2 := Lib.hid (below_kept (HO.out.alloc (.cells (ofrc l[j]).toArray 81)) hb2); clear hb2)
          | (with_reducible refine at_dst 32 ?_; refine wpList_load_cells rfl 81 _ rfl wr.heap.size 0 (ofrc l[j]) rfl _ Try.underlying81 rfl (by rw [ofrc_len]; exact size81) (fun j u hu => by rw [HW.out.cell, Nat.zero_add, List.getElem?_toArray]; exact hu) ?_)
          | (with_reducible refine at_store 81 33 ?_; refine wpList_store_own rfl 81 _ _ rfl base 81 34 g l.length c (i * 34) (r.flatMap ofrc) (ofrc l[j]) HO2.out (by simp [Act.eval]) rfl (by rw [ofrc_len]; exact size81) (by rw [ofrc_len]; omega) (oneCell_ofrc _) ?_; intro w3 ho3 hg3 _; rw [flatMap_splice ofrc_len r i (by rw [HDR.out.len]; omega) l[j]] at ho3; have HO3 := Lib.hid ho3; have HG3 := Lib.hid hg3; clear ho3 hg3))
        skip
      · go_roundw
        case rel =>
          exact ⟨i + 1, j + 1, r.set i l[j], by go_num, by go_num, HDR.out.keep_ hlt HP.out, HO3.out, ((HG.out.trans' ((bnew _ _).grownBy _)).trans' (HB2.out.grownBy _)).trans' HG3.out⟩
        case measure => simp [intOf]; omega
      · go_roundw
        case rel => exact ⟨i, j + 1, r, by go_num, by go_num, HDR.out.drop_ hlt HP.out, HO2.out, (HG.out.trans' ((bnew _ _).grownBy _)).trans' (HB2.out.grownBy _)⟩
        case measure => simp [intOf]; omega
    · obtain rfl : j = l.length := by omega
      have hne : c ≠ i := by omega
      have HG := Lib.hid hgw
      have HO := Lib.hid hown
      have HDR := Lib.hid hdr
      have hki : (keepL l).length = i := by
        have := congrArg List.length hdr.head
        rw [List.take_length, List.length_take, hdr.len] at this
        omega
      have HK := Lib.hid hki
      clear hgw hown hdr hki
      go_wp2_with (refine wpList_clear_own rfl _ 76 rfl base 81 34 g l.length c i (l.length - i) (c - i) (r.flatMap ofrc) i0 z81 Try.underlying76 hi0 hz0 rfl (by decide) HO.out ?_ (by omega) (by omega) ?_)
      · simp [Act.eval]
      · intro w3 ys ho3 hy3 hg3 _
        have hrow := ownsRow_head (k := i) ho3 (by omega)
        rw [hy3, flatMap_take ofrc_len, HDR.out.head, List.take_length] at hrow
        have HRW := Lib.hid hrow
        have HG3 := Lib.hid hg3
        clear hrow ho3 hg3 hy3
        go_wp2
        go_ret
        rw [HK.out]
        exact ⟨c, rfl, HRW.out, HG.out.trans' HG3.out⟩

theorem delete_any (l : List Ofr) (base : Nat) (v : Value) (w : World) (h : w.ownsRow base 81 34 v l.length (l.flatMap ofrc)) (hl : l.length ≤ 100000) :
    Calls Try.prog 41 #[v, .func (.func 37) #[] #[]] w fun e w' => ∃ v', e = .returned v' ∧ w'.ownsRow base 81 34 v' (keepL l).length ((keepL l).flatMap ofrc) ∧ w.grownBy w' v.ownBlock := by
  obtain ⟨A, c, g, rfl, hr, hlc, _⟩ := NewSl.own h
  rcases idx_keep l 0 (by omega) with ⟨h1, h2⟩ | ⟨k, hk, h1, h2, h3⟩
  · refine (delete_none l g c base A w h hl h1).mono ?_
    rintro e w' ⟨rfl, hb⟩
    exact ⟨_, rfl, by rw [h2]; exact below_kept h hb, hb.grownBy _⟩
  · have hA : ∃ g, A = some ⟨g, 0, none⟩ := by
      rcases h.2 with ⟨hv, h0⟩ | ⟨g', cap, cur, hv, _⟩
      · simp only [Value.slice.injEq] at hv; omega
      · simp only [Value.slice.injEq] at hv; exact ⟨g', hv.1⟩
    obtain ⟨g2, rfl⟩ := hA
    refine (delete_some l g2 c base k w h hl (by simpa using h1) hk h2 h3 hlc).mono ?_
    rintro e w' ⟨c', rfl, ho, hg⟩
    exact ⟨_, rfl, ho, by simpa [Value.ownBlock] using hg⟩
end Go.Proofs.Ytbcejdmgdgghfaa
