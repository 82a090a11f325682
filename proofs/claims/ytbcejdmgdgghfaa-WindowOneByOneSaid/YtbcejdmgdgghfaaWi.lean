/- Contracts of the window's Answer (whole) and Settled. Conditions: at most 100,000 offers, outcomes from 0 to 5. -/
import Derived.Test.YtbcejdmgdgghfaaWh
namespace Go.Proofs.Ytbcejdmgdgghfaa
set_option linter.unusedSimpArgs false
set_option linter.unusedVariables false
set_option linter.unnecessarySimpa false
open Go.RowKit

def ansE (l : List Ofr) (i : Id) (o : Int) : Int :=
  match l.find? (isId i) with
  | none => 8
  | some x => if o < 1 ∨ 5 < o then 11 else if possB x.outcome o then 0 else 10
def ansL (l : List Ofr) (i : Id) (o : Int) : List Ofr :=
  match l.find? (isId i) with
  | none => l
  | some x => if o < 1 ∨ 5 < o then l else if possB x.outcome o then l.set (l.findIdx (isId i)) { x with outcome := o } else l
def OkL (l : List Ofr) : Prop := ∀ o ∈ l, 0 ≤ o.outcome ∧ o.outcome ≤ 5

theorem answer_at (b g : Nat) (s : Int) (l : List Ofr) (i : Id) (o : Int) (w : World) (h : Win w b s l g) (hl : l.length ≤ 100000) (hgb : g ≠ b) (hok : OkL l) :
    Calls Try.prog 17 #[.pointer (some ⟨b, 0, none⟩), .agg (idc i).toArray, .int .i64 o] w fun e w' => e = .returned (.int .i64 (ansE l i o)) ∧ w.grownBy w' (some b) ∧ ∃ g', Win w' b s (ansL l i o) g' ∧ g' ≠ b ∧ (g' = g ∨ w.heap.size ≤ g') := by
  rcases idxI_spec (isId i) l 0 with ⟨h1, h2⟩ | ⟨k, hk, h1, h2, h3, h4⟩
  · exact (answer_none b g s l i o w h hl h2).mono fun e w' ⟨he, hb⟩ => ⟨by rw [he]; simp [ansE, h2], hb.grownBy _, g, by simpa [ansL, h2] using h.below hb, hgb, .inl rfl⟩
  · rw [Int.zero_add] at h1
    by_cases ho : o < 1 ∨ 5 < o
    · exact (answer_kind b g s l i o k w h hl h1 ho).mono fun e w' ⟨he, hb⟩ => ⟨by rw [he]; simp [ansE, h3, ho], hb.grownBy _, g, by simpa [ansL, h3, ho] using h.below hb, hgb, .inl rfl⟩
    · obtain ⟨hx0, hx5⟩ := hok l[k] (List.getElem_mem hk)
      cases hp : possB l[k].outcome o with
      | false => exact (answer_state b g s l i o k w h hl hgb h1 hk (by omega) (by omega) hx0 hx5 hp).mono fun e w' ⟨he, hb⟩ => ⟨by rw [he]; simp [ansE, h3, ho, hp], hb.grownBy _, g, by simpa [ansL, h3, ho, hp] using h.below hb, hgb, .inl rfl⟩
      | true => exact (answer_ok b g s l i o k w h hl hgb h1 hk (by omega) (by omega) hx0 hx5 hp).mono fun e w' ⟨he, hw, g', hg1, hg2, hg3⟩ => ⟨by rw [he]; simp [ansE, h3, ho, hp], hw, g', by simpa [ansL, h3, ho, hp, h4] using hg1, hg2, .inr hg3⟩

theorem answer_any (b g : Nat) (s : Int) (l : List Ofr) (i : Id) (o : Int) (w : World) (h : Win w b s l g) (hl : l.length ≤ 100000) (hgb : g ≠ b) (hok : OkL l) :
    Calls Try.prog 17 #[.pointer (some ⟨b, 0, none⟩), .agg (idc i).toArray, .int .i64 o] w fun e w' => e = .returned (.int .i64 (ansE l i o)) ∧ w.grownBy w' (some b) ∧ ∃ g', Win w' b s (ansL l i o) g' ∧ g' ≠ b :=
  (answer_at b g s l i o w h hl hgb hok).mono fun e w' ⟨he, hw, g', h1, h2, _⟩ => ⟨he, hw, g', h1, h2⟩

/-! ### Settled -/
def toRes (o : Ofr) : Res := ⟨o.id, o.outcome⟩
def nset (l : List Ofr) : Nat := (l.takeWhile fun o => !outB o).length
def settled (l : List Ofr) : List Res := (l.take (nset l)).map toRes
theorem nset_le (l : List Ofr) : nset l ≤ l.length := by
  unfold nset
  induction l with
  | nil => simp
  | cons x l ih => simp only [List.takeWhile_cons]; split <;> simp; omega
theorem nset_idx : ∀ (l : List Ofr) (s : Int), 0 ≤ s → (idxI outB l s = -1 ∧ nset l = l.length) ∨ (idxI outB l s = s + nset l ∧ nset l < l.length)
  | [], s, _ => .inl ⟨rfl, rfl⟩
  | x :: l, s, hs => by
    cases h : outB x
    · rcases nset_idx l (s + 1) (by omega) with ⟨h1, h2⟩ | ⟨h1, h2⟩
      · exact .inl ⟨by simp [idxI, h, h1], by simp [nset, h]; exact h2⟩
      · refine .inr ⟨?_, by simp [nset, h]; exact h2⟩
        simp only [idxI, h, Bool.false_eq_true, if_false, h1]
        simp [nset, h]; omega
    · exact .inr ⟨by simp [idxI, nset, h], by simp [nset, h]⟩

theorem settled_nil (w : World) :
    Calls Try.prog 13 #[.pointer none] w fun e w' => e = .returned (.slice none 0 0) ∧ w = w' := by
  go_enter Try.func13, Try.ntmps13
  go_wp2
  go_ret
  exact ⟨rfl, rfl⟩

theorem wpList_run {P : Program} {ops : Array Oper} {Q : Exit → Act → World → Prop} {rest : List Oper} {a : Act} {w : World} {o : Oper} (hgd : o.guard = none) (v : Value) (h : (execOp a.eval o).run P w = .ok (.value v) w)
    (k : wpList P ops Q rest (a.put o.dst v) w) : wpList P ops Q (o :: rest) a w :=
  wpList_plain hgd fun K hK => by unfold Oper.wp; rw [h]; exact hK _ _ k

def resvs (o : Res) : List Value := [.agg (idc o.id).toArray, .int .i64 o.outcome]
theorem resvs_flat (o : Res) : flatc (resvs o) = resc o := by simp [flatc, resvs, resc, Value.cells]
theorem exec_build43 {w : World} {ρ : Operand → Value} {dst : Option Tmp} {t : TypeId} {p : String} {af : Array Edge} {gd : Option (Nat × Bool)} (x z : Operand) (o : Res) (hx : ρ x = .agg (idc o.id).toArray) (hz : ρ z = .int .i64 o.outcome) :
    (execOp ρ ⟨dst, .build 43 #[(0, x), (1, z)], t, p, af, gd⟩).run Try.prog w = .ok (.value (.agg (resc o).toArray)) w := by
  obtain ⟨i0, hi0, hz0, _, _⟩ := info_parts info43
  rw [exec_build_all 43 _ i0 z43 structs43 hi0 hz0 _ fields43 (resvs o) (by simp [resvs, numbered, hx, hz]) (by simp [Places, resvs, Value.cells, idc_len]) (by rw [resvs_flat, resc_len]; rfl), resvs_flat]

theorem Rd.cutTo {w : World} {g size n m : Nat} {A : Option Addr} {xs : List Value} (h : Rd w g size A n xs) (hm : m ≤ n) : Rd w g size A m (xs.take (m * size)) := by
  refine ⟨by rw [List.length_take, h.1]; exact Nat.min_eq_left (Nat.mul_le_mul_right _ hm), fun hp => ?_⟩
  obtain ⟨hg, off, e, hc⟩ := h.2 (by omega)
  refine ⟨hg, off, e, fun j u hu => hc j u ?_⟩
  rw [List.getElem?_take] at hu
  split at hu
  · exact hu
  · cases hu
theorem Rd.cutFrom {w : World} {g size n m c : Nat} {A : Option Addr} {xs : List Value} (h : Rd w g size A n xs) (hm : m ≤ n) (hc : n ≤ c) : Rd w g size (if c = m then A else A.map (·.add (m * size))) (n - m) (xs.drop (m * size)) := by
  refine ⟨by rw [List.length_drop, h.1, Nat.sub_mul], fun hp => ?_⟩
  obtain ⟨hg, off, rfl, hcc⟩ := h.2 (by omega)
  rw [if_neg (by omega)]
  refine ⟨hg, off + m * size, by simp [Addr.add_lit], fun j u hu => ?_⟩
  rw [Nat.add_assoc]
  exact hcc _ u (by rw [← hu, List.getElem?_drop])
theorem flatMap_take {α : Type} {f : α → List Value} {size : Nat} (hf : ∀ x, (f x).length = size) : ∀ (l : List α) (m : Nat), (l.flatMap f).take (m * size) = (l.take m).flatMap f
  | [], m => by simp
  | x :: l, 0 => by simp
  | x :: l, m + 1 => by
    simp only [List.flatMap_cons, List.take_succ_cons]
    rw [List.take_append, List.take_of_length_le (by rw [hf, Nat.add_mul]; omega), hf, ← flatMap_take hf l m]
    congr 2
    rw [Nat.add_mul]; omega
theorem flatMap_drop {α : Type} {f : α → List Value} {size : Nat} (hf : ∀ x, (f x).length = size) : ∀ (l : List α) (m : Nat), (l.flatMap f).drop (m * size) = (l.drop m).flatMap f
  | [], m => by simp
  | x :: l, 0 => by simp
  | x :: l, m + 1 => by
    simp only [List.flatMap_cons, List.drop_succ_cons]
    rw [List.drop_append, List.drop_of_length_le (by rw [hf, Nat.add_mul]; omega), hf, ← flatMap_drop hf l m]
    simp only [List.nil_append]
    congr 1
    rw [Nat.add_mul]; omega

theorem clone_any2 (l : List Ofr) (n g c : Nat) (A : Option Addr) (w : World) (hn : n = l.length) (hr : Rd w g 34 A n (l.flatMap ofrc)) (hl : l.length ≤ 100000) :
    Calls Try.prog 38 #[.slice A n c] w fun e w' => ∃ v, e = .returned v ∧ w'.ownsRow w.heap.size 81 34 v n (l.flatMap ofrc) ∧ Below w.heap.size w w' := by
  subst hn
  exact clone_any l g c A w hr hl

set_option maxHeartbeats 2000000 in
theorem settled_at (b g : Nat) (s : Int) (l : List Ofr) (w : World) (h : Win w b s l g) (hl : l.length ≤ 100000) (hgb : g ≠ b) :
    Calls Try.prog 13 #[.pointer (some ⟨b, 0, none⟩)] w fun e w' => ∃ v, e = .returned v ∧ w'.ownsRow w.heap.size 43 33 v (settled l).length ((settled l).flatMap resc) ∧ w.grownBy w' (some b) ∧ ∃ g', Win w' b s (l.drop (nset l)) g' ∧ g' ≠ b ∧ (0 < (l.drop (nset l)).length → w.heap.size ≤ g') := by
  obtain ⟨hlt, _, _, _, A, c, hc1, hr, hlc⟩ := h.cells
  have hns := nset_le l
  obtain ⟨i0, hi0, hz0, hz1, hz2⟩ := info_parts info43
  rcases nset_idx l 0 (by omega) with ⟨hi, hn⟩ | ⟨hi, hn⟩
  · have HI := Lib.hid hi
    have HR := Lib.hid hr
    have HW := Lib.hid h
    have HN := Lib.hid hn
    clear hi h hr hn
    go_enter Try.func13, Try.ntmps13
    go_wp2_with (go_at_call 36; refine (idx_out l g _ c A w HR.out rfl hl).mono ?_; rintro e w1 ⟨he, hb1⟩; obtain rfl := he.trans (congrArg (fun n => Ending.returned (.int .i64 n)) HI.out); clear he; have hcw : w1.cell? ⟨b, 1, none⟩ = some (.slice A l.length c) := (World.cell?_of_block (w := w) (hb1.block b hlt)).trans hc1; have HB1 := Lib.hid hb1; clear hb1)
    go_loopw [4, 28] (fun v si wr => ∃ k : Nat, k ≤ l.length ∧ si = .int .i64 k ∧ wr.ownsRow w.heap.size 43 33 v k (((l.take k).map toRes).flatMap resc) ∧ Below w.heap.size w wr) (fun _ i _ => l.length - (intOf i).toNat)
    case atStart => exact ⟨0, by omega, rfl, World.ownsRow_nil _ _ _ _, HB1.out⟩
    case round =>
      obtain ⟨k, hk, rfl, hown, hbw⟩ := hrel
      by_cases hlt' : k < l.length
      · have hkl : k < l.length := by omega
        obtain ⟨hg, off, rfl, hc⟩ := (HR.out.below hbw).elem ofrc_len hkl rfl
        have HC := Lib.hid hc
        have HB := Lib.hid hbw
        have HO := Lib.hid hown
        have h33 := ofrc_33 l[k]
        clear hc hg hbw hown
        go_wp2_with (first
          | (with_reducible refine at_dst 31 ?_; refine wpList_load_cells rfl 81 _ rfl g (off + k * 34) (ofrc l[k]) rfl _ Try.underlying81 rfl (by rw [ofrc_len]; exact size81) (fun j u hu => HC.out j u hu) ?_)
          | (with_reducible refine at_dst 6 ?_; refine wpList_var 81 (ofrc l[k]) _ Try.underlying81 z81 (by rw [ofrc_len]; exact info81') (by rw [ofrc_len]; exact z81_size) (oneCell_ofrc _) (by simp [Act.put]) rfl ?_)
          | (with_reducible refine at_dst 34 ?_; refine wpList_load_cells rfl 37 _ rfl wr.heap.size 0 (idc l[k].id) rfl _ Try.underlying37 rfl (by rw [idc_len]; exact size37) (fun j u hu => ?_) ?_; (have hj : j < 32 := by (have := (List.getElem?_eq_some_iff.1 hu).1; rwa [idc_len] at this)); (rw [World.cell?_alloc_new, List.getElem?_toArray, Nat.zero_add, ofrc_id _ j hj]; exact hu))
          | (with_reducible refine at_dst 37 ?_; refine wpList_run rfl (.agg (resc (toRes l[k])).toArray) (exec_build43 _ _ (toRes l[k]) rfl rfl) ?_)
          | (with_reducible refine at_dst 38 ?_; refine wpList_push 30 w.heap.size 43 i0 z43 33 40 Try.underlying30 hi0 hz0 hz1 hz2 z43_size (by omega) (by omega) _ (resc (toRes l[k])) rfl rfl (resc_len _) (oneCell_resc _) u4 k (((l.take k).map toRes).flatMap resc) rfl (by simp [Act.put]) (HO.out.alloc _) (by simp only [maxLen]; omega) (by omega) (by have h1 := HB.out.size; simp; omega) ?_; intro v' w2 hown2 hgr2 _; have HO2 := Lib.hid hown2; have HG2 := Lib.hid hgr2; clear hown2 hgr2))
        go_roundw
        case rel =>
          have hbb := (HB.out.alloc HB.out.size (.cells (ofrc l[k]).toArray 81))
          have hbb2 := hbb.grown HG2.out hbb.size (fun x hx => (HO.out.lt x hx).1)
          refine ⟨k + 1, by omega, by go_num, ?_, hbb2⟩
          rw [List.take_succ_eq_append_getElem hkl, List.map_append, List.flatMap_append]
          simpa using HO2.out
        case measure => simp [intOf]; omega
      · obtain rfl : k = l.length := by omega
        have hcw2 : wr.cell? ⟨b, 1, none⟩ = some (.slice A l.length c) := (World.cell?_of_block (w := w) (hbw.block b hlt)).trans hc1
        have hbk := HW.out.below hbw
        have HO := Lib.hid hown
        have HB := Lib.hid hbw
        have HK := Lib.hid hbk
        clear hown hbw hbk
        go_wp2_with fail
        all_goals
          refine (clone_any2 (l.drop l.length) _ g _ _ wr (by simp) (by simp; exact Rd.nil _ _ _ _) (by simp)).mono ?_
          rintro e w3 ⟨v, rfl, ho3, hb3⟩
          obtain ⟨A', c', g', rfl, hr3, hc3, hge3⟩ := NewSl.own ho3
          have hbl : b < wr.heap.size := Nat.lt_of_lt_of_le hlt HB.out.size
          obtain ⟨A3, c4, hblk3, _, _⟩ := HK.out.below hb3
          have hcell3 := hblk3.cell 1
          simp only [List.getElem?_toArray, List.getElem?_cons_succ, List.getElem?_cons_zero] at hcell3
          have hfr3 := hblk3.frozen 1
          have hgb3 : (l.drop l.length).length = 0 ∨ g' ≠ b := by
            rcases Nat.eq_zero_or_pos (l.drop l.length).length with h0 | h0
            · exact .inl h0
            · exact .inr (by have := hge3 (by rw [List.length_drop, Nat.sub_self] at h0; omega); omega)
          have hfin : ∃ gg, Win (w3.setCell ⟨b, 1, none⟩ (.slice A' (l.drop l.length).length c')) b s (l.drop l.length) gg ∧ gg ≠ b ∧ (0 < (l.drop l.length).length → w.heap.size ≤ gg) := by
            have hb5 := hblk3.set_ 1 (.slice A' (l.drop l.length).length c')
            rcases hgb3 with h0 | h0
            · refine ⟨b + 1, ⟨A', c', by simpa using hb5, ?_, by first | (simp; done) | simpa using hc3⟩, by omega, fun hp => by omega⟩
              have hnil : l.drop l.length = [] := List.eq_nil_of_length_eq_zero h0
              rw [hnil]; exact Rd.nil _ _ _ _
            · refine ⟨g', ⟨A', c', by simpa using hb5, ?_, by first | (simp; done) | simpa using hc3⟩, h0, fun hp => by first | (simp at hp; done) | (have h1 := HB.out.size; have h2 := hge3 (by simpa using hp); omega)⟩
              have := hr3.grown (grownBy_setCell w3 b 1 (.slice A' (l.drop l.length).length c')) (by simpa using h0)
              simpa using this
          have hgw : w.grownBy (w3.setCell ⟨b, 1, none⟩ (.slice A' (l.drop l.length).length c')) (some b) := ((HB.out.trans (hb3.mono HB.out.size)).grownBy _).trans' (grownBy_setCell _ _ _ _)
          have hoo : (w3.setCell ⟨b, 1, none⟩ (.slice A' (l.drop l.length).length c')).ownsRow w.heap.size 43 33 u4 l.length (((l.take l.length).map toRes).flatMap resc) :=
            (below_kept HO.out hb3).kept (grownBy_setCell _ _ _ _) (.inr (fun e => by have := (HO.out.lt b e).1; omega))
          simp only [List.length_drop, Nat.sub_self] at hfin hgw hoo
          have HF := Lib.hid hfin
          have HG := Lib.hid hgw
          have HOO := Lib.hid hoo
          clear hfin hgw hoo ho3 hr3 hc3 hge3 hblk3 hb3 hgb3
          go_wp2
          go_ret
          exact ⟨u4, rfl, by rw [settled, HN.out]; simpa using HOO.out, HG.out, by rw [HN.out]; simpa using HF.out⟩
  · rw [Int.zero_add] at hi
    have HI := Lib.hid hi
    have HR := Lib.hid hr
    have HW := Lib.hid h
    have HN := Lib.hid hn
    clear hi h hr
    go_enter Try.func13, Try.ntmps13
    go_wp2_with (go_at_call 36; refine (idx_out l g _ c A w HR.out rfl hl).mono ?_; rintro e w1 ⟨he, hb1⟩; obtain rfl := he.trans (congrArg (fun n => Ending.returned (.int .i64 n)) HI.out); clear he; have hcw : w1.cell? ⟨b, 1, none⟩ = some (.slice A l.length c) := (World.cell?_of_block (w := w) (hb1.block b hlt)).trans hc1; have HB1 := Lib.hid hb1; clear hb1)
    go_loopw [4, 28] (fun v si wr => ∃ k : Nat, k ≤ (nset l) ∧ si = .int .i64 k ∧ wr.ownsRow w.heap.size 43 33 v k (((l.take k).map toRes).flatMap resc) ∧ Below w.heap.size w wr) (fun _ i _ => (nset l) - (intOf i).toNat)
    case atStart => exact ⟨0, by omega, rfl, World.ownsRow_nil _ _ _ _, HB1.out⟩
    case round =>
      obtain ⟨k, hk, rfl, hown, hbw⟩ := hrel
      by_cases hlt' : k < (nset l)
      · have hkl : k < l.length := by omega
        obtain ⟨hg, off, rfl, hc⟩ := (HR.out.below hbw).elem ofrc_len hkl rfl
        have HC := Lib.hid hc
        have HB := Lib.hid hbw
        have HO := Lib.hid hown
        have h33 := ofrc_33 l[k]
        clear hc hg hbw hown
        go_wp2_with (first
          | (with_reducible refine at_dst 31 ?_; refine wpList_load_cells rfl 81 _ rfl g (off + k * 34) (ofrc l[k]) rfl _ Try.underlying81 rfl (by rw [ofrc_len]; exact size81) (fun j u hu => HC.out j u hu) ?_)
          | (with_reducible refine at_dst 6 ?_; refine wpList_var 81 (ofrc l[k]) _ Try.underlying81 z81 (by rw [ofrc_len]; exact info81') (by rw [ofrc_len]; exact z81_size) (oneCell_ofrc _) (by simp [Act.put]) rfl ?_)
          | (with_reducible refine at_dst 34 ?_; refine wpList_load_cells rfl 37 _ rfl wr.heap.size 0 (idc l[k].id) rfl _ Try.underlying37 rfl (by rw [idc_len]; exact size37) (fun j u hu => ?_) ?_; (have hj : j < 32 := by (have := (List.getElem?_eq_some_iff.1 hu).1; rwa [idc_len] at this)); (rw [World.cell?_alloc_new, List.getElem?_toArray, Nat.zero_add, ofrc_id _ j hj]; exact hu))
          | (with_reducible refine at_dst 37 ?_; refine wpList_run rfl (.agg (resc (toRes l[k])).toArray) (exec_build43 _ _ (toRes l[k]) rfl rfl) ?_)
          | (with_reducible refine at_dst 38 ?_; refine wpList_push 30 w.heap.size 43 i0 z43 33 40 Try.underlying30 hi0 hz0 hz1 hz2 z43_size (by omega) (by omega) _ (resc (toRes l[k])) rfl rfl (resc_len _) (oneCell_resc _) u4 k (((l.take k).map toRes).flatMap resc) rfl (by simp [Act.put]) (HO.out.alloc _) (by simp only [maxLen]; omega) (by omega) (by have h1 := HB.out.size; simp; omega) ?_; intro v' w2 hown2 hgr2 _; have HO2 := Lib.hid hown2; have HG2 := Lib.hid hgr2; clear hown2 hgr2))
        go_roundw
        case rel =>
          have hbb := (HB.out.alloc HB.out.size (.cells (ofrc l[k]).toArray 81))
          have hbb2 := hbb.grown HG2.out hbb.size (fun x hx => (HO.out.lt x hx).1)
          refine ⟨k + 1, by omega, by go_num, ?_, hbb2⟩
          rw [List.take_succ_eq_append_getElem hkl, List.map_append, List.flatMap_append]
          simpa using HO2.out
        case measure => simp [intOf]; omega
      · obtain rfl : k = (nset l) := by omega
        have hcw2 : wr.cell? ⟨b, 1, none⟩ = some (.slice A l.length c) := (World.cell?_of_block (w := w) (hbw.block b hlt)).trans hc1
        have hbk := HW.out.below hbw
        have HO := Lib.hid hown
        have HB := Lib.hid hbw
        have HK := Lib.hid hbk
        clear hown hbw hbk
        go_wp2_with fail
        refine (clone_any2 (l.drop (nset l)) _ g _ _ wr (by simp) ?_ (by simp; omega)).mono ?_
        · have := (HR.out.below HB.out).cutFrom hns hlc
          rw [flatMap_drop ofrc_len, if_neg (by omega)] at this
          simpa using this
        · rintro e w3 ⟨v, rfl, ho3, hb3⟩
          obtain ⟨A', c', g', rfl, hr3, hc3, hge3⟩ := NewSl.own ho3
          have hbl : b < wr.heap.size := Nat.lt_of_lt_of_le hlt HB.out.size
          obtain ⟨A3, c4, hblk3, _, _⟩ := HK.out.below hb3
          have hcell3 := hblk3.cell 1
          simp only [List.getElem?_toArray, List.getElem?_cons_succ, List.getElem?_cons_zero] at hcell3
          have hfr3 := hblk3.frozen 1
          have hgb3 : (l.drop (nset l)).length = 0 ∨ g' ≠ b := by
            rcases Nat.eq_zero_or_pos (l.drop (nset l)).length with h0 | h0
            · exact .inl h0
            · exact .inr (by have := hge3 (by rw [List.length_drop] at h0; omega); omega)
          have hfin : ∃ gg, Win (w3.setCell ⟨b, 1, none⟩ (.slice A' (l.drop (nset l)).length c')) b s (l.drop (nset l)) gg ∧ gg ≠ b ∧ (0 < (l.drop (nset l)).length → w.heap.size ≤ gg) := by
            have hb5 := hblk3.set_ 1 (.slice A' (l.drop (nset l)).length c')
            rcases hgb3 with h0 | h0
            · refine ⟨b + 1, ⟨A', c', by simpa using hb5, ?_, by first | (simp; done) | simpa using hc3⟩, by omega, fun hp => by omega⟩
              have hnil : l.drop (nset l) = [] := List.eq_nil_of_length_eq_zero h0
              rw [hnil]; exact Rd.nil _ _ _ _
            · refine ⟨g', ⟨A', c', by simpa using hb5, ?_, by first | (simp; done) | simpa using hc3⟩, h0, fun hp => by first | (simp at hp; done) | (have h1 := HB.out.size; have h2 := hge3 (by simpa using hp); omega)⟩
              have := hr3.grown (grownBy_setCell w3 b 1 (.slice A' (l.drop (nset l)).length c')) (by simpa using h0)
              simpa using this
          have hgw : w.grownBy (w3.setCell ⟨b, 1, none⟩ (.slice A' (l.drop (nset l)).length c')) (some b) := ((HB.out.trans (hb3.mono HB.out.size)).grownBy _).trans' (grownBy_setCell _ _ _ _)
          have hoo : (w3.setCell ⟨b, 1, none⟩ (.slice A' (l.drop (nset l)).length c')).ownsRow w.heap.size 43 33 u4 (nset l) (((l.take (nset l)).map toRes).flatMap resc) :=
            (below_kept HO.out hb3).kept (grownBy_setCell _ _ _ _) (.inr (fun e => by have := (HO.out.lt b e).1; omega))
          simp only [List.length_drop] at hfin hgw hoo
          have HF := Lib.hid hfin
          have HG := Lib.hid hgw
          have HOO := Lib.hid hoo
          clear hfin hgw hoo ho3 hr3 hc3 hge3 hblk3 hb3 hgb3
          go_wp2
          go_ret
          exact ⟨u4, rfl, by rw [settled]; simpa [Nat.min_eq_left hns] using HOO.out, HG.out, by simpa using HF.out⟩
theorem settled_any (b g : Nat) (s : Int) (l : List Ofr) (w : World) (h : Win w b s l g) (hl : l.length ≤ 100000) (hgb : g ≠ b) :
    Calls Try.prog 13 #[.pointer (some ⟨b, 0, none⟩)] w fun e w' => ∃ v, e = .returned v ∧ w'.ownsRow w.heap.size 43 33 v (settled l).length ((settled l).flatMap resc) ∧ w.grownBy w' (some b) ∧ ∃ g', Win w' b s (l.drop (nset l)) g' ∧ g' ≠ b :=
  (settled_at b g s l w h hl hgb).mono fun e w' ⟨v, h1, h2, h3, g', h4, h5, _⟩ => ⟨v, h1, h2, h3, g', h4, h5⟩
end Go.Proofs.Ytbcejdmgdgghfaa
