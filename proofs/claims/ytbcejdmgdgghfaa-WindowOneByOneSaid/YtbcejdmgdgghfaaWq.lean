/- WindowBound: the plain law (never more outstanding offers than the size) and the walk; lists of operations, opened. Condition: at most 100 operations, as the statement has it. -/
import Derived.Test.YtbcejdmgdgghfaaWo
import Derived.Test.YtbcejdmgdgghfaaWp
namespace Go.Proofs.Ytbcejdmgdgghfaa
set_option linter.unusedSimpArgs false
set_option linter.unusedVariables false
set_option linter.unnecessarySimpa false
open Go.ChangeShapes Go.WideShapes Go.ChangeAt Go.RowKit

theorem op_of_ints {cs : List Value} (h : Ints (.u8 :: (List.replicate 32 .u8 ++ [.i64])) cs) : ∃ o : Op', cs = opc o := by
  obtain ⟨a, b, rfl, ha, hb⟩ := Ints.split (ks := [.u8]) h
  obtain ⟨b1, b2, rfl, hb1, hb2⟩ := Ints.split (ks := List.replicate 32 .u8) (ks' := [.i64]) hb
  obtain ⟨ks, h1, h2⟩ := bytes_of_ints 1 a ha
  obtain ⟨i, rfl⟩ := id_of_ints hb1
  match b2, hb2 with
  | [v], hb2 =>
    obtain ⟨⟨n, rfl, _⟩, _⟩ := hb2
    match ks, h1 with
    | [k], _ => exact ⟨⟨k, i, n⟩, by simp [h2, opc]⟩
  | [], hb2 => exact hb2.elim
  | _ :: _ :: _, hb2 => exact hb2.2.elim
theorem list_of {α : Type} {f : α → List Value} {q : List Value → Prop} (hq : ∀ x, q x → ∃ a, x = f a) : ∀ (es : List (List Value)), (∀ x ∈ es, q x) → ∃ l : List α, es = l.map f
  | [], _ => ⟨[], rfl⟩
  | x :: es, h => by
    obtain ⟨a, rfl⟩ := hq x (h x (by simp))
    obtain ⟨l, rfl⟩ := list_of hq es fun y hy => h y (by simp [hy])
    exact ⟨a :: l, rfl⟩
theorem rd_of_cells {α : Type} {f : α → List Value} {size : Nat} (hf : ∀ x, (f x).length = size) (hs : 0 < size) {w : World} {g : Nat} {A : Option Addr} {l : List α} (h : 0 < l.length → ∃ off, A = some ⟨g, off, none⟩ ∧ ∀ i x, (l.map f)[i]? = some x → ∀ j u, x[j]? = some u → w.cell? ⟨g, off + i * size + j, none⟩ = some u) : Rd w g size A l.length (l.flatMap f) := by
  refine ⟨length_flatMap_const hf l, fun hp => ?_⟩
  obtain ⟨off, hA, hc⟩ := h hp
  have hlt : g < w.heap.size := by
    have h0 : (f l[0]).length = size := hf _
    exact World.block_lt_of_cell? _ _ (hc 0 (f l[0]) (by simp [List.getElem?_eq_getElem hp]) 0 (f l[0])[0] (List.getElem?_eq_getElem (by omega)))
  refine ⟨hlt, off, hA, fun j u hu => ?_⟩
  have hj : j < l.length * size := by
    have := (List.getElem?_eq_some_iff.1 hu).1
    rwa [length_flatMap_const hf l] at this
  have hk : j / size < l.length := (Nat.div_lt_iff_lt_mul hs).2 hj
  have hm : j % size < size := Nat.mod_lt _ hs
  have e : j / size * size + j % size = j := by rw [Nat.mul_comm]; exact Nat.div_add_mod j size
  rw [← e, getElem?_flatMap hf l (j / size) hk (j % size) hm] at hu
  have := hc (j / size) (f l[j / size]) (by simp [List.getElem?_eq_getElem hk]) (j % size) u hu
  rwa [Nat.add_assoc, e] at this
theorem open_ops {H : Type} {enc : TypeId × Value → H} {w : World} {base : Nat} {sp : Nat → Bool} {held : Bool} {v : Value} {d : DataW H} {ps : List MemPlace} {r : Reach} {b0 : Nat} (hval : Value.okWide Try.prog w r b0 49 v) (h : DataW.Trod enc Try.prog w base sp held 49 v d ps) :
    ∃ A c g, ∃ l : List Op', v = .slice A l.length c ∧ Rd w g 34 A l.length (l.flatMap opc) ∧ l.length ≤ maxLen := by
  obtain ⟨a0, n0, c0, rfl⟩ := okWide_slice Try.underlying49 hval
  obtain ⟨A, n, c, g, es, h1, h2, h3, h4, h5, h6⟩ := open_flat (size := 34) Try.underlying49 flat51 (by kernel_rfl) (by simp) h
  obtain ⟨l, rfl⟩ := list_of (fun x hx => op_of_ints hx) es h5
  simp only [Value.cells, List.cons.injEq, Value.slice.injEq, and_true] at h1
  obtain ⟨rfl, rfl, rfl⟩ := h1
  rw [List.length_map] at h2
  subst h2
  exact ⟨a0, c0, g, l, rfl, rd_of_cells opc_len (by decide) h6, by omega⟩

/-! ### the plain law -/
theorem outs_app (l m : List Ofr) : outs (l ++ m) = outs l ++ outs m := by simp [outs]
theorem outs_set_le : ∀ (l : List Ofr) (k : Nat) (hk : k < l.length) (y : Ofr), outB l[k] = true → (outs (l.set k y)).length ≤ (outs l).length
  | x :: l, 0, _, y, h => by
    simp only [List.getElem_cons_zero] at h
    simp only [List.set_cons_zero, outs, List.filter_cons, h, if_true]
    split <;> simp
  | x :: l, k + 1, hk, y, h => by
    have ih := outs_set_le l k (by simpa using hk) y (by simpa using h)
    simp only [outs, List.length_map] at ih
    simp only [List.set_cons_succ, outs, List.filter_cons]
    split <;> simpa using ih
theorem outs_keepL (l : List Ofr) : outs (keepL l) = [] := by
  simp only [outs, keepL, List.filter_filter]
  rw [List.filter_eq_nil_iff.2]
  · rfl
  · intro x _; cases outB x <;> simp
theorem outs_drop_le (l : List Ofr) (k : Nat) : (outs (l.drop k)).length ≤ (outs l).length := by
  have := outs_app (l.take k) (l.drop k)
  rw [List.take_append_drop] at this
  rw [this, List.length_append]; omega
theorem possB_out {a o : Int} (x : Ofr) (hx : x.outcome = a) (h : possB a o = true) : outB x = true := by
  unfold possB at h
  unfold outB
  rw [hx]
  by_cases h0 : a = 0
  · simp [h0]
  · by_cases h1 : a = 1
    · simp [h1]
    · simp [h0, h1] at h
theorem room_is {s : Int} {l : List Ofr} (h : ((outs l).length : Int) ≤ s) : roomOf s l = s - ((outs l).length : Int) := by
  unfold roomOf
  omega
theorem okL_nil : OkL [] := fun o h => by cases h
theorem bound_step {s : Int} {l : List Ofr} {o : Op'} (h : ((outs l).length : Int) ≤ s) (hk : knd o ≠ 4) : ((outs (stepW s l o).offers).length : Int) ≤ s := by
  unfold stepW
  split
  · simp only [offL]
    split
    · exact h
    · split
      · exact h
      · split
        · exact h
        · rename_i hb
          have : ((outs l).length : Int) < s := by simpa [busyB] using hb
          rw [outs_app, List.length_append]
          have : (outs [(⟨o.id, o.n, 0⟩ : Ofr)]).length ≤ 1 := outs_le _
          omega
  · split
    · simp only [ansL]
      split
      · exact h
      · rename_i x hx
        split
        · exact h
        · split
          · rename_i hp
            rcases idxI_spec (isId o.id) l 0 with ⟨_, h2⟩ | ⟨k, hkl, _, _, h3, h4⟩
            · rw [h2] at hx; cases hx
            · rw [h3] at hx
              injection hx with hx
              subst hx
              rw [h4]
              exact Int.le_trans (Int.ofNat_le.2 (outs_set_le l k hkl _ (possB_out _ rfl hp))) h
          · exact h
    · split
      · have := outs_drop_le l (nset l); simp only; omega
      · split
        · simp only [outs_keepL]; simp; omega
        · have := knd_lt o; omega
theorem step_size {s : Int} {l : List Ofr} {o : Op'} (hk : knd o ≠ 4) : (stepW s l o).size = s := by
  have := knd_lt o
  unfold stepW
  split <;> (try split) <;> (try split) <;> (try split) <;> first | rfl | omega

def szOf (n : Int) : Int := 1 + n % 64
theorem szOf_le (n : Int) : 1 ≤ szOf n ∧ szOf n ≤ 64 := by unfold szOf; omega
theorem szOf_valid (n : Int) : validB (szOf n) = true := by
  have := szOf_le n
  simp [validB, this]
/-- the steps from the argument to the size, as the walk meets them -/
structure SzF (n s : Int) : Prop where
  e1 : IntKind.u64.wrap n = n % 18446744073709551616
  e2 : IntKind.u64.wrap ((n % 18446744073709551616).tmod 64) = n % 64
  e3 : IntKind.i64.wrap (n % 64) = n % 64
  e4 : IntKind.i64.wrap (1 + n % 64) = s
  e5 : (n % 18446744073709551616).tmod 64 = n % 64
theorem szF (n : Int) : SzF n (szOf n) := by
  have h5 : (n % 18446744073709551616).tmod 64 = n % 64 := by rw [Int.tmod_eq_emod_of_nonneg (by omega)]; omega
  exact ⟨by simp [IntKind.wrap, IntKind.bits, IntKind.signed], by rw [h5]; exact IntWalk.u64_in _ (by omega), IntWalk.i64_in _ (by omega), IntWalk.i64_in _ (by omega), h5⟩

set_option maxHeartbeats 2000000 in
theorem bound_long (n : Int) (l : List Op') (g c : Nat) (A : Option Addr) (w : World) (hl : l.length ≤ maxLen) (h100 : 100 < l.length) :
    Calls Try.prog 5 #[.int .i64 n, .slice A l.length c] w fun e w' => e = .returned (.bool true) ∧ Below w.heap.size w w' := by
  go_enter Try.func5, Try.ntmps5
  go_wp2_with (first
    | (go_at_call 11; with_reducible refine (known_any w).mono ?_; rintro e w1 ⟨rfl, hb1⟩; have HB1 := Lib.hid hb1; clear hb1)
    | (go_at_call 11; with_reducible refine (known_any w1).mono ?_; rintro e w2 ⟨rfl, hb2⟩; have HB2 := Lib.hid (HB1.out.trans' hb2); clear hb2))
  go_ret
  exact ⟨rfl, HB2.out⟩

set_option maxHeartbeats 2000000 in
theorem bound_walk (n : Int) (l : List Op') (g c : Nat) (A : Option Addr) (w : World) (hr : Rd w g 34 A l.length (l.flatMap opc)) (h100 : l.length ≤ 100) :
    Calls Try.prog 5 #[.int .i64 n, .slice A l.length c] w fun e w' => e = .returned (.bool true) ∧ Below w.heap.size w w' := by
  have HR := Lib.hid hr
  obtain ⟨s, hs⟩ : ∃ s, s = szOf n := ⟨_, rfl⟩
  obtain ⟨e1, e2, e3, e4, e5⟩ : SzF n s := hs ▸ szF n
  have hs1 : 1 ≤ s ∧ s ≤ 64 := hs ▸ szOf_le n
  obtain ⟨hs1, hs2⟩ := hs1
  have hsv : validB s = true := hs ▸ szOf_valid n
  have HV := Lib.hid hsv
  clear hr hs hsv
  go_enter Try.func5, Try.ntmps5
  go_wp2_with (first
    | (go_at_call 11; with_reducible refine (known_any w).mono ?_; rintro e w1 ⟨rfl, hb1⟩; have HB1 := Lib.hid hb1; clear hb1)
    | (go_at_call 12; with_reducible refine (new_ok s w1 HV.out).mono ?_; rintro e w2 ⟨rfl, hw2, he2⟩; have HW2 := Lib.hid (hw2.nil_at (g' := w1.heap.size + 1)); have hb2 : Below w1.heap.size w1 w2 := (by rw [he2]; exact bnew w1 _); have HB2 := Lib.hid (HB1.out.trans' hb2); have HBW := Lib.hid HB1.out.size; clear hw2 he2 hb2 e1 e2 e3 e4 e5))
  go_loopw [7] (fun si wr => ∃ k : Nat, ∃ lk, ∃ g', k ≤ l.length ∧ si = .int .i64 k ∧ Win wr w1.heap.size s lk g' ∧ g' ≠ w1.heap.size ∧ OkL lk ∧ lk.length ≤ k ∧ ((outs lk).length : Int) ≤ s ∧ Below w.heap.size w wr) (fun i _ => l.length - (intOf i).toNat)
  case atStart => exact ⟨0, [], w1.heap.size + 1, by omega, rfl, HW2.out, by omega, okL_nil, Nat.le_refl _, by rw [show outs [] = [] from rfl, List.length_nil]; omega, HB2.out⟩
  case round =>
    obtain ⟨k, lk, g', hk, rfl, hw, hgb, hok, hlk, hout, hbw⟩ := hrel
    by_cases hlt : k < l.length
    · obtain ⟨hg, off, rfl, hc⟩ := (HR.out.below hbw).elem opc_len hlt rfl
      have c0 := hc 0 _ (opc_0 _)
      rw [Nat.add_zero] at c0
      have hkl := l[k].kind.toNat_lt
      have hr := rem5 l[k].kind.toNat (by omega) (knd l[k]) rfl
      have HC := Lib.hid hc
      have HW := Lib.hid hw
      have HB := Lib.hid hbw
      have HO := Lib.hid hok
      have HU := Lib.hid hout
      clear hc hg hw hbw hok hout
      by_cases h4 : knd l[k] = 4
      · rw [h4] at hr
        go_wp2_with fail
        go_roundw
        case rel => exact ⟨k + 1, lk, g', by omega, by go_num, HW.out, hgb, HO.out, by omega, HU.out, HB.out⟩
        case measure => simp [intOf]; omega
      · have hb4 : ((knd l[k] : Int) == 4) = false := by rw [beq_eq_false_iff_ne]; omega
        have H4 := Lib.hid h4
        clear h4
        go_wp2_with (first
          | (with_reducible refine at_dst 45 ?_; refine wpList_load_cells rfl 51 _ rfl g (off + k * 34) (opc l[k]) rfl _ Try.underlying51 rfl (by rw [opc_len]; exact size51) (fun j u hu => HC.out j u hu) ?_)
          | (go_at_call 23; with_reducible refine (perform_any w1.heap.size g' s lk l[k] wr HW.out (by omega) hgb HO.out).mono ?_; intro e w3 hpp; unfold PPost at hpp; obtain ⟨v1, v2, he, _, _, hg3, g3, hw3, hgb3⟩ := hpp; subst he; rw [step_size H4.out] at hw3; have hb3 := HB.out.grown hg3 (Nat.le_trans HB.out.size (Nat.le_refl _)) (fun x hx => by simp at hx; have := HBW.out; omega); have HB3 := Lib.hid hb3; have hS : ∃ x, Win w3 w1.heap.size s x g3 ∧ OkL x ∧ x.length ≤ k + 1 ∧ ((outs x).length : Int) ≤ s := ⟨_, hw3, okL_step HO.out, Nat.le_trans (len_step s lk l[k]) (by omega), bound_step HU.out H4.out⟩; obtain ⟨lj, hw3', hok3, hlen3, hout3⟩ := hS; have HW3 := Lib.hid hw3'; have HO3 := Lib.hid hok3; have hroom := room_is hout3; have HRM := Lib.hid hroom; have hj := outs_le lj; clear hg3 hw3 hb3 hw3' hok3 hroom)
          | (go_at_call 14; with_reducible refine (outstanding_any w1.heap.size g3 s lj w3 HW3.out (by omega)).mono ?_; rintro e w4 ⟨v, rfl, ho4, hb4⟩; obtain ⟨A4, c4, rfl⟩ := own_slice ho4; have HW4 := Lib.hid (HW3.out.below hb4); have HB4 := Lib.hid (HB3.out.trans (hb4.mono HB3.out.size)); clear ho4 hb4)
          | (go_at_call 22; with_reducible refine (room_any w1.heap.size g3 s lj w4 HW4.out (by omega) hs1 hs2).mono ?_; rintro e w5 ⟨he, hb5⟩; rw [HRM.out] at he; subst he; have HW5 := Lib.hid (HW4.out.below hb5); have HB5 := Lib.hid (HB4.out.trans (hb5.mono HB4.out.size)); clear hb5)
          | (go_at_call 14; with_reducible refine (outstanding_any w1.heap.size g3 s lj w5 HW5.out (by omega)).mono ?_; rintro e w6 ⟨v, rfl, ho6, hb6⟩; obtain ⟨A6, c6, rfl⟩ := own_slice ho6; have HW6 := Lib.hid (HW5.out.below hb6); have HB6 := Lib.hid (HB5.out.trans (hb6.mono HB5.out.size)); clear ho6 hb6))
        go_roundw
        case rel => exact ⟨k + 1, lj, g3, by omega, by go_num, HW6.out, hgb3, HO3.out, hlen3, hout3, HB6.out⟩
        case measure => simp [intOf]; omega
    · go_wp2_with fail
      go_ret
      exact ⟨rfl, hbw⟩
theorem bound_any (n : Int) (l : List Op') (g c : Nat) (A : Option Addr) (w : World) (hr : Rd w g 34 A l.length (l.flatMap opc)) (hl : l.length ≤ maxLen) :
    Calls Try.prog 5 #[.int .i64 n, .slice A l.length c] w fun e w' => e = .returned (.bool true) ∧ Below w.heap.size w w' := by
  by_cases h : l.length ≤ 100
  · exact bound_walk n l g c A w hr h
  · exact bound_long n l g c A w hl (by omega)
end Go.Proofs.Ytbcejdmgdgghfaa
