/- Contracts of the window's readers: New, Len, Size, Resize, slices.Clone, find, Outstanding. Conditions: at most 100,000 offers. -/
import Derived.Test.YtbcejdmgdgghfaaWb
import Derived.Test.YtbcejdmgdgghfaaFill
namespace Go.Proofs.Ytbcejdmgdgghfaa
set_option linter.unusedSimpArgs false
set_option linter.unusedVariables false
set_option linter.unnecessarySimpa false
open Go.RowKit

def zid : List Value := List.replicate 32 (.int .u8 0)
def z37 : Value := .agg zid.toArray
def z81 : Value := .agg (zid ++ [Value.int .i64 0, Value.int .i64 0]).toArray
def z43 : Value := .agg (zid ++ [Value.int .i64 0]).toArray
theorem info37 : (Try.prog.info? 37).map (fun i => (i.zero, i.size, i.bytes)) = some (some z37, 32, 32) := by kernel_rfl
theorem info81 : (Try.prog.info? 81).map (fun i => (i.zero, i.size, i.bytes)) = some (some z81, 34, 48) := by kernel_rfl
theorem info72 : (Try.prog.info? 72).map (fun i => (i.zero, i.size, i.bytes)) = some (some z81, 34, 48) := by kernel_rfl
theorem info43 : (Try.prog.info? 43).map (fun i => (i.zero, i.size, i.bytes)) = some (some z43, 33, 40) := by kernel_rfl
theorem info81' : (Try.prog.info? 81).map (fun i => (i.zero, i.size)) = some (some z81, 34) := by kernel_rfl
theorem info72' : (Try.prog.info? 72).map (fun i => (i.zero, i.size)) = some (some z81, 34) := by kernel_rfl
theorem z37_size : z37.cells.size = 32 := rfl
theorem z81_size : z81.cells.size = 34 := rfl
theorem z43_size : z43.cells.size = 33 := rfl

/-- the window's struct lies in block b; its offers in block g -/
def Win (w : World) (b : Nat) (s : Int) (l : List Ofr) (g : Nat) : Prop :=
  ∃ A c, Blk w b 78 #[.int .i64 s, .slice A l.length c] ∧ Rd w g 34 A l.length (l.flatMap ofrc) ∧ l.length ≤ c
/-- a window without offers: its block of offers is any -/
theorem Win.nil_at {w : World} {b g g' : Nat} {s : Int} (h : Win w b s [] g) : Win w b s [] g' := by
  obtain ⟨A, c, h1, _, h3⟩ := h
  exact ⟨A, c, h1, Rd.nil _ _ _ _, h3⟩
/-- v is a slice of n elements with the cells xs, in a block from B on -/
def NewSl (B : Nat) (w : World) (size : Nat) (v : Value) (n : Nat) (xs : List Value) : Prop :=
  ∃ A c g, v = .slice A n c ∧ Rd w g size A n xs ∧ n ≤ c ∧ (0 < n → B ≤ g)
theorem NewSl.own {w : World} {base e size n : Nat} {v : Value} {xs : List Value} (h : w.ownsRow base e size v n xs) : NewSl base w size v n xs := by
  have hv : ∃ A c, v = .slice A n c := by
    rcases h.2 with ⟨rfl, rfl⟩ | ⟨g, cap, cur, rfl, _⟩
    · exact ⟨_, _, rfl⟩
    · exact ⟨_, _, rfl⟩
  obtain ⟨A, c, rfl⟩ := hv
  obtain ⟨g, h1, h2, h3⟩ := Rd.own h
  exact ⟨A, c, g, rfl, h1, h2, h3⟩

def validB (n : Int) : Bool := decide (1 ≤ n) && decide (n ≤ 64)

theorem valid_any (n : Int) (w : World) :
    Calls Try.prog 35 #[.int .i64 n] w fun e w' => e = .returned (.bool (validB n)) ∧ w = w' := by
  by_cases h : 1 ≤ n
  · go_enter Try.func35, Try.ntmps35
    go_wp2
    go_ret
    exact ⟨by simp [validB, h], rfl⟩
  · go_enter Try.func35, Try.ntmps35
    go_wp2
    go_ret
    exact ⟨by simp [validB, h]; intro; omega, rfl⟩

theorem new_bad (n : Int) (w : World) (h : validB n = false) :
    Calls Try.prog 12 #[.int .i64 n] w fun e w' => e = .returned (.tuple #[.pointer none, .int .i64 2]) ∧ w = w' := by
  go_enter Try.func12, Try.ntmps12
  go_wp2_with (go_at_call 35; refine (valid_any _ _).mono ?_; rintro e w' ⟨rfl, rfl⟩)
  go_ret2
  exact ⟨rfl, rfl⟩
theorem new_ok (n : Int) (w : World) (h : validB n = true) :
    Calls Try.prog 12 #[.int .i64 n] w fun e w' => e = .returned (.tuple #[.pointer (some ⟨w.heap.size, 0, none⟩), .int .i64 0]) ∧ Win w' w.heap.size n [] 0 ∧ w' = w.alloc (.cells #[.int .i64 n, .slice none 0 0] 78) := by
  go_enter Try.func12, Try.ntmps12
  go_wp2_with (go_at_call 35; refine (valid_any _ _).mono ?_; rintro e w' ⟨rfl, rfl⟩)
  go_ret2
  exact ⟨rfl, ⟨none, 0, Blk.new _ _ _, Rd.nil _ _ _ _, Nat.le_refl _⟩, rfl⟩

theorem len_any (b g : Nat) (s : Int) (l : List Ofr) (w : World) (h : Win w b s l g) :
    Calls Try.prog 19 #[.pointer (some ⟨b, 0, none⟩)] w fun e w' => e = .returned (.int .i64 l.length) ∧ w = w' := by
  obtain ⟨A, c, hb, hr, hc⟩ := h
  have hcell := hb.cell 1
  simp only [List.getElem?_toArray, List.getElem?_cons_succ, List.getElem?_cons_zero] at hcell
  clear hb hr hc
  go_enter Try.func19, Try.ntmps19
  go_wp2
  go_ret
  exact ⟨rfl, rfl⟩
theorem len_nil (w : World) :
    Calls Try.prog 19 #[.pointer none] w fun e w' => e = .returned (.int .i64 0) ∧ w = w' := by
  go_enter Try.func19, Try.ntmps19
  go_wp2
  go_ret
  exact ⟨rfl, rfl⟩
theorem size_any (b g : Nat) (s : Int) (l : List Ofr) (w : World) (h : Win w b s l g) :
    Calls Try.prog 21 #[.pointer (some ⟨b, 0, none⟩)] w fun e w' => e = .returned (.int .i64 s) ∧ w = w' := by
  obtain ⟨A, c, hb, hr, hc⟩ := h
  have hcell := hb.cell 0
  simp only [List.getElem?_toArray, List.getElem?_cons_zero] at hcell
  clear hb hr hc
  go_enter Try.func21, Try.ntmps21
  go_wp2
  go_ret
  exact ⟨rfl, rfl⟩
theorem size_nil (w : World) :
    Calls Try.prog 21 #[.pointer none] w fun e w' => e = .returned (.int .i64 0) ∧ w = w' := by
  go_enter Try.func21, Try.ntmps21
  go_wp2
  go_ret
  exact ⟨rfl, rfl⟩
def errV (n : Int) : Int := if validB n then 0 else 2
theorem resize_any (b g : Nat) (s n : Int) (l : List Ofr) (w : World) (h : Win w b s l g) (hgb : g ≠ b) :
    Calls Try.prog 20 #[.pointer (some ⟨b, 0, none⟩), .int .i64 n] w fun e w' => e = .returned (.int .i64 (errV n)) ∧ Win w' b (if validB n then n else s) l g ∧ w.grownBy w' (some b) := by
  have hw := h
  obtain ⟨A, c, hb, hr, hc⟩ := h
  have hcell := hb.cell 0
  have hfr := hb.frozen 0
  simp only [List.getElem?_toArray, List.getElem?_cons_zero] at hcell
  cases hv : validB n
  · have H := Lib.hid hw
    clear hb hr hc hw
    go_enter Try.func20, Try.ntmps20
    go_wp2_with (go_at_call 35; refine (valid_any _ _).mono ?_; rintro e w' ⟨rfl, rfl⟩)
    go_ret
    exact ⟨by simp [errV, hv], H.out, World.grownBy.refl _ _⟩
  · have hbs := hb.set_ 0 (.int .i64 n)
    have hrs := hr.grown (grownBy_setCell w b 0 (.int .i64 n)) (by simpa using hgb)
    have H : Hid (Win (w.setCell ⟨b, 0, none⟩ (.int .i64 n)) b n l g) := Lib.hid ⟨A, c, by simpa using hbs, hrs, hc⟩
    clear hb hr hc hw hbs hrs
    go_enter Try.func20, Try.ntmps20
    go_wp2_with (go_at_call 35; refine (valid_any _ _).mono ?_; rintro e w' ⟨rfl, rfl⟩)
    go_ret
    exact ⟨by simp [errV, hv], H.out, grownBy_setCell _ _ _ _⟩
theorem resize_nil (n : Int) (w : World) :
    Calls Try.prog 20 #[.pointer none, .int .i64 n] w fun e w' => e = .returned (.int .i64 1) ∧ w = w' := by
  go_enter Try.func20, Try.ntmps20
  go_wp2
  go_ret
  exact ⟨rfl, rfl⟩

theorem clone_any (l : List Ofr) (g c : Nat) (A : Option Addr) (w : World) (hr : Rd w g 34 A l.length (l.flatMap ofrc)) (hl : l.length ≤ 100000) :
    Calls Try.prog 38 #[.slice A l.length c] w fun e w' => ∃ v, e = .returned v ∧ w'.ownsRow w.heap.size 81 34 v l.length (l.flatMap ofrc) ∧ Below w.heap.size w w' := by
  cases A with
  | none =>
    have hl0 : l = [] := by
      rcases Nat.eq_zero_or_pos l.length with h | h
      · exact List.eq_nil_of_length_eq_zero h
      · obtain ⟨_, _, h, _⟩ := hr.2 h; cases h
    subst hl0
    have hnil := fun (w : World) (a : Option Addr) (l c : Nat) => Lib.run_eql_slice_nil (P := Try.prog) w 76 81 a l c 0 0 Try.underlying76
    clear hr
    go_enter Try.func38, Try.ntmps38
    go_wp2
    go_ret
    exact ⟨_, rfl, World.ownsRow_nil _ _ _ _, Below.refl _ _⟩
  | some ad =>
    obtain ⟨i0, hi0, hz0, hz1, hz2⟩ := info_parts info81
    have hnil := fun (w : World) (a : Option Addr) (l c : Nat) => Lib.run_eql_slice_nil (P := Try.prog) w 76 81 a l c 0 0 Try.underlying76
    have H := Lib.hid hr
    clear hr
    go_enter Try.func38, Try.ntmps38
    go_wp2_with (with_reducible refine at_dst 7 ?_; refine wpList_append_own _ rfl _ _ 76 rfl w.heap.size 81 i0 z81 34 48 Try.underlying76 hi0 hz0 hz1 hz2 rfl (by omega) _ 0 [] rfl (World.ownsRow_made w _ 0 (Nat.le_refl _) (Nat.zero_le _) rfl) ad l.length c (l.flatMap ofrc) rfl (length_flatMap_const ofrc_len l) ?_ (oneCell_flat oneCell_ofrc l) ?_ ?_ ?_ ?_)
    · intro j u hu
      have hpos : 0 < l.length := by
        rcases Nat.eq_zero_or_pos l.length with h | h
        · have : l = [] := List.eq_nil_of_length_eq_zero h
          subst this; simp at hu
        · exact h
      obtain ⟨hg, off, e, hc⟩ := H.out.2 hpos
      injection e with e
      subst e
      rw [Addr.add_lit, World.cell?_alloc_lt _ _ _ (by exact hg)]
      exact hc j u hu
    · simp only [maxLen]; omega
    · omega
    · simp
    · intro v w1 hown hgr _
      have HO := Lib.hid hown
      have HG := Lib.hid hgr
      clear hown hgr
      go_wp2
      go_ret
      exact ⟨v, rfl, HO.out, (bnew _ _).grown HG.out (by simp) (by simp [Value.ownBlock])⟩
end Go.Proofs.Ytbcejdmgdgghfaa
