/- Contract of slices.IndexFunc at the window's two predicates. Conditions: at most 100,000 offers. -/
import Derived.Test.YtbcejdmgdgghfaaWa
namespace Go.Proofs.Ytbcejdmgdgghfaa
set_option linter.unusedSimpArgs false
set_option linter.unusedVariables false
set_option linter.unnecessarySimpa false
open Go.RowKit

def idxI {α : Type} (p : α → Bool) : List α → Int → Int
  | [], _ => -1
  | x :: l, k => if p x then k else idxI p l (k + 1)
def isId (i : Id) (o : Ofr) : Bool := decide (o.id = i)


set_option maxHeartbeats 400000 in
theorem idx_out (l : List Ofr) (g n c : Nat) (A : Option Addr) (w : World) (hA : Rd w g 34 A n (l.flatMap ofrc)) (hn : n = l.length) (hl : l.length ≤ 100000) :
    Calls Try.prog 36 #[.slice A n c, .func (.func 37) #[] #[]] w fun e w' => e = .returned (.int .i64 (idxI outB l 0)) ∧ Below w.heap.size w w' := by
  subst hn
  have H1 := Lib.hid hA
  clear hA
  go_enter Try.func36, Try.ntmps36
  go_wp2_with fail
  go_loopw [8] (fun si wr => ∃ k : Nat, k ≤ l.length ∧ si = .int .i64 k ∧ Hid (idxI outB l 0 = idxI outB (l.drop k) k) ∧ Below w.heap.size w wr) (fun i _ => l.length - (intOf i).toNat)
  case atStart => exact ⟨0, by omega, rfl, Lib.hid rfl, Below.refl _ _⟩
  case round =>
    obtain ⟨k, hk, rfl, hix, hbw⟩ := hrel
    by_cases hlt : k < l.length
    · obtain ⟨hg, off, rfl, hc⟩ := (H1.out.below hbw).elem ofrc_len hlt rfl
      have hd : l.drop k = l[k] :: l.drop (k + 1) := List.drop_eq_getElem_cons hlt
      have hd' := hix.out
      rw [hd] at hd'
      have HD := Lib.hid hd'
      have HC := Lib.hid hc
      have HB := Lib.hid hbw
      clear hd hd' hix hc hg hbw
      cases hp : outB l[k]
      all_goals
        have HP := Lib.hid hp
        have hpp : ∀ x, x = outB l[k] → x = _ := fun x hx => hx.trans hp
        have HPP := Lib.hid hpp
        clear hp hpp
        go_wp2_with (first
          | (with_reducible refine at_dst 15 ?_; refine wpList_load_cells rfl 81 _ rfl g (off + k * 34) (ofrc l[k]) rfl _ Try.underlying81 rfl (by rw [ofrc_len]; exact size81) (fun j u hu => HC.out j u hu) ?_)
          | (go_at_call 37; refine (out_any _ _).mono ?_; rintro e w1 ⟨he, hb1⟩; obtain rfl := he.trans (congrArg (fun b => Ending.returned (.bool b)) HP.out); clear he; have HB1 := Lib.hid hb1; clear hb1))
      · go_roundw
        case rel => exact ⟨k + 1, by omega, by go_num, Lib.hid (by rw [HD.out]; simp [idxI, HP.out]), HB.out.trans (HB1.out.mono HB.out.size)⟩
        case measure => simp [intOf]; omega
      · go_ret
        exact ⟨by rw [HD.out]; simp [idxI, HP.out], HB.out.trans (HB1.out.mono HB.out.size)⟩
    · have hd : l.drop k = [] := List.drop_eq_nil_of_le (by omega)
      have hd' := hix.out
      rw [hd] at hd'
      have HD := Lib.hid hd'
      have HB := Lib.hid hbw
      clear hd hd' hix hbw
      go_wp2_with fail
      go_ret
      exact ⟨by rw [HD.out]; rfl, HB.out⟩


set_option maxHeartbeats 400000 in
theorem idx_find (l : List Ofr) (g n c : Nat) (A : Option Addr) (i : Id) (p : Nat) (w : World) (hA : Rd w g 34 A n (l.flatMap ofrc)) (hn : n = l.length) (hl : l.length ≤ 100000) (hp : Blk w p 37 (idc i).toArray) :
    Calls Try.prog 36 #[.slice A n c, .func (.func 43) #[] #[.pointer (some ⟨p, 0, none⟩)]] w fun e w' => e = .returned (.int .i64 (idxI (isId i) l 0)) ∧ Below w.heap.size w w' := by
  subst hn
  have H1 := Lib.hid hA
  have hpH := Lib.hid hp
  clear hA hp
  go_enter Try.func36, Try.ntmps36
  go_wp2_with fail
  go_loopw [8] (fun si wr => ∃ k : Nat, k ≤ l.length ∧ si = .int .i64 k ∧ Hid (idxI (isId i) l 0 = idxI (isId i) (l.drop k) k) ∧ Below w.heap.size w wr) (fun i _ => l.length - (intOf i).toNat)
  case atStart => exact ⟨0, by omega, rfl, Lib.hid rfl, Below.refl _ _⟩
  case round =>
    obtain ⟨k, hk, rfl, hix, hbw⟩ := hrel
    by_cases hlt : k < l.length
    · obtain ⟨hg, off, rfl, hc⟩ := (H1.out.below hbw).elem ofrc_len hlt rfl
      have hd : l.drop k = l[k] :: l.drop (k + 1) := List.drop_eq_getElem_cons hlt
      have hd' := hix.out
      rw [hd] at hd'
      have HD := Lib.hid hd'
      have HC := Lib.hid hc
      have HB := Lib.hid hbw
      have HQ := Lib.hid (hpH.out.below hbw)
      clear hd hd' hix hc hg hbw
      cases hp : (isId i) l[k]
      all_goals
        have HP := Lib.hid hp
        have hpp : ∀ x, x = (isId i) l[k] → x = _ := fun x hx => hx.trans hp
        have HPP := Lib.hid hpp
        clear hp hpp
        go_wp2_with (first
          | (with_reducible refine at_dst 15 ?_; refine wpList_load_cells rfl 81 _ rfl g (off + k * 34) (ofrc l[k]) rfl _ Try.underlying81 rfl (by rw [ofrc_len]; exact size81) (fun j u hu => HC.out j u hu) ?_)
          | (go_at_call 43; refine (find1_any _ i p _ HQ.out).mono ?_; rintro e w1 ⟨he, hb1⟩; obtain rfl := he.trans (congrArg (fun b => Ending.returned (.bool b)) HP.out); clear he; have HB1 := Lib.hid hb1; clear hb1))
      · go_roundw
        case rel => exact ⟨k + 1, by omega, by go_num, Lib.hid (by rw [HD.out]; simp [idxI, HP.out]), HB.out.trans (HB1.out.mono HB.out.size)⟩
        case measure => simp [intOf]; omega
      · go_ret
        exact ⟨by rw [HD.out]; simp [idxI, HP.out], HB.out.trans (HB1.out.mono HB.out.size)⟩
    · have hd : l.drop k = [] := List.drop_eq_nil_of_le (by omega)
      have hd' := hix.out
      rw [hd] at hd'
      have HD := Lib.hid hd'
      have HB := Lib.hid hbw
      clear hd hd' hix hbw
      go_wp2_with fail
      go_ret
      exact ⟨by rw [HD.out]; rfl, HB.out⟩

end Go.Proofs.Ytbcejdmgdgghfaa
