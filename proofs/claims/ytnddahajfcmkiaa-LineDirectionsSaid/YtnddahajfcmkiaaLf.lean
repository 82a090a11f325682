/- The line: slices.Clone at windows and flights; Waiting. Conditions: at most 100,000 elements. -/
import Derived.Test.YtnddahajfcmkiaaLe
namespace Go.Proofs.Ytnddahajfcmkiaa
set_option linter.unusedSimpArgs false
set_option linter.unusedVariables false
set_option linter.unnecessarySimpa false
open Go.RowKit

def z95 : Value := .agg #[.int .i64 0, .string ⟨#[]⟩]
theorem info62' : (Try.prog.info? 62).map (fun i => (i.zero, i.size, i.bytes)) = some (some z62, 2, 16) := by kernel_rfl
theorem info95' : (Try.prog.info? 95).map (fun i => (i.zero, i.size, i.bytes)) = some (some z95, 2, 24) := by kernel_rfl
theorem size95 : (Try.prog.info? 95).map (·.size) = some 2 := by kernel_rfl
theorem oneCell_flat {α : Type} {f : α → List Value} (h : ∀ x, ∀ u ∈ f x, u.oneCell' = true) (l : List α) : ∀ u ∈ l.flatMap f, u.oneCell' = true := by
  intro u hu
  obtain ⟨x, _, hx⟩ := List.mem_flatMap.1 hu
  exact h x u hx

set_option maxRecDepth 20000 in
theorem wclone_any (l : List Wn) (g c : Nat) (A : Option Addr) (w : World) (hr : Rd w g 2 A l.length (l.flatMap winc)) (hl : l.length ≤ 100000) :
    Calls Try.prog 41 #[.slice A l.length c] w fun e w' => ∃ v, e = .returned v ∧ w'.ownsRow w.heap.size 62 2 v l.length (l.flatMap winc) ∧ Below w.heap.size w w' := by
  cases A with
  | none =>
    have hl0 : l = [] := by
      rcases Nat.eq_zero_or_pos l.length with h | h
      · exact List.eq_nil_of_length_eq_zero h
      · obtain ⟨_, _, h, _⟩ := hr.2 h; cases h
    subst hl0
    have hnil := fun (w : World) (a : Option Addr) (l c : Nat) => Lib.run_eql_slice_nil (P := Try.prog) w 33 62 a l c 0 0 Try.underlying33
    clear hr
    go_enter Try.func41, Try.ntmps41
    go_wp2
    go_ret
    exact ⟨_, rfl, World.ownsRow_nil _ _ _ _, Below.refl _ _⟩
  | some ad =>
    obtain ⟨i0, hi0, hz0, hz1, hz2⟩ := info_parts info62'
    have hnil := fun (w : World) (a : Option Addr) (l c : Nat) => Lib.run_eql_slice_nil (P := Try.prog) w 33 62 a l c 0 0 Try.underlying33
    have H := Lib.hid hr
    clear hr
    go_enter Try.func41, Try.ntmps41
    go_wp2_with (with_reducible refine at_dst 7 ?_; refine wpList_append_own _ rfl _ _ 33 rfl w.heap.size 62 i0 z62 2 16 Try.underlying33 hi0 hz0 hz1 hz2 rfl (by omega) _ 0 [] rfl (World.ownsRow_made w _ 0 (Nat.le_refl _) (Nat.zero_le _) rfl) ad l.length c (l.flatMap winc) rfl (length_flatMap_const winc_len l) ?_ (oneCell_flat oneCell_winc l) ?_ ?_ ?_ ?_)
    · intro j u hu
      have hpos : 0 < l.length := by
        rcases Nat.eq_zero_or_pos l.length with h | h
        · have : l = [] := List.eq_nil_of_length_eq_zero h
          subst this; simp at hu
        · exact h
      obtain ⟨hg, off, e, hc⟩ := H.out.2 hpos
      obtain rfl : ad = ⟨g, off, none⟩ := Option.some.inj e
      rw [Addr.add_lit, World.cell?_alloc_lt _ _ _ (by exact hg)]
      exact hc j u hu
    · simp only [maxLen]; omega
    · omega
    · simp
    · intro v w1 hown hgr _
      have HO := Lib.hid hown
      have HG := Lib.hid hgr
      clear hown hgr
      go_wp2
      go_ret
      exact ⟨v, rfl, HO.out, (bnew _ _).grown HG.out (by simp) (by simp [Value.ownBlock])⟩


set_option maxRecDepth 20000 in
theorem fclone_any (l : List Fl) (g c : Nat) (A : Option Addr) (w : World) (hr : Rd w g 2 A l.length (l.flatMap flc)) (hl : l.length ≤ 100000) :
    Calls Try.prog 46 #[.slice A l.length c] w fun e w' => ∃ v, e = .returned v ∧ w'.ownsRow w.heap.size 95 2 v l.length (l.flatMap flc) ∧ Below w.heap.size w w' := by
  cases A with
  | none =>
    have hl0 : l = [] := by
      rcases Nat.eq_zero_or_pos l.length with h | h
      · exact List.eq_nil_of_length_eq_zero h
      · obtain ⟨_, _, h, _⟩ := hr.2 h; cases h
    subst hl0
    have hnil := fun (w : World) (a : Option Addr) (l c : Nat) => Lib.run_eql_slice_nil (P := Try.prog) w 82 95 a l c 0 0 Try.underlying82
    clear hr
    go_enter Try.func46, Try.ntmps46
    go_wp2
    go_ret
    exact ⟨_, rfl, World.ownsRow_nil _ _ _ _, Below.refl _ _⟩
  | some ad =>
    obtain ⟨i0, hi0, hz0, hz1, hz2⟩ := info_parts info95'
    have hnil := fun (w : World) (a : Option Addr) (l c : Nat) => Lib.run_eql_slice_nil (P := Try.prog) w 82 95 a l c 0 0 Try.underlying82
    have H := Lib.hid hr
    clear hr
    go_enter Try.func46, Try.ntmps46
    go_wp2_with (with_reducible refine at_dst 7 ?_; refine wpList_append_own _ rfl _ _ 82 rfl w.heap.size 95 i0 z95 2 24 Try.underlying82 hi0 hz0 hz1 hz2 rfl (by omega) _ 0 [] rfl (World.ownsRow_made w _ 0 (Nat.le_refl _) (Nat.zero_le _) rfl) ad l.length c (l.flatMap flc) rfl (length_flatMap_const flc_len l) ?_ (oneCell_flat oneCell_flc l) ?_ ?_ ?_ ?_)
    · intro j u hu
      have hpos : 0 < l.length := by
        rcases Nat.eq_zero_or_pos l.length with h | h
        · have : l = [] := List.eq_nil_of_length_eq_zero h
          subst this; simp at hu
        · exact h
      obtain ⟨hg, off, e, hc⟩ := H.out.2 hpos
      obtain rfl : ad = ⟨g, off, none⟩ := Option.some.inj e
      rw [Addr.add_lit, World.cell?_alloc_lt _ _ _ (by exact hg)]
      exact hc j u hu
    · simp only [maxLen]; omega
    · omega
    · simp
    · intro v w1 hown hgr _
      have HO := Lib.hid hown
      have HG := Lib.hid hgr
      clear hown hgr
      go_wp2
      go_ret
      exact ⟨v, rfl, HO.out, (bnew _ _).grown HG.out (by simp) (by simp [Value.ownBlock])⟩


def Ln.ed (L : Ln) (s : Int) : Ed := if s = 0 then L.l else L.r
theorem waiting_any {w : World} {b gw g0 g1 c c0 c1 : Nat} {L : Ln} {A A0 A1 : Option Addr} (s : Int) (h : LnAt w b L gw g0 g1 A A0 A1 c c0 c1) :
    Calls Try.prog 28 #[.pointer (some ⟨b, 0, none⟩), .int .i64 s] w fun e w' => e = .returned (.int .i64 (if validS s then ((L.ed s).wait.size : Int) else 0)) ∧ w = w' := by
  have hc0 : w.cell? ⟨b, 7, none⟩ = some (.string L.l.wait) := h.blk.cell 7
  have hc1 : w.cell? ⟨b, 10, none⟩ = some (.string L.r.wait) := h.blk.cell 10
  clear h
  by_cases h0 : s = 0
  · subst h0
    have HE : Hid ((if validS 0 then ((L.ed 0).wait.size : Int) else 0) = L.l.wait.size) := Lib.hid (by simp [validS, Ln.ed])
    rw [HE.out]
    go_enter Try.func28, Try.ntmps28
    go_wp2_with (go_at_call 49; refine (valid_any 0 w).mono ?_; rintro e w' ⟨rfl, rfl⟩)
    go_ret
    exact ⟨rfl, rfl⟩
  · by_cases h1 : s = 1
    · subst h1
      have HE : Hid ((if validS 1 then ((L.ed 1).wait.size : Int) else 0) = L.r.wait.size) := Lib.hid (by simp [validS, Ln.ed])
      rw [HE.out]
      go_enter Try.func28, Try.ntmps28
      go_wp2_with (go_at_call 49; refine (valid_any 1 w).mono ?_; rintro e w' ⟨rfl, rfl⟩)
      go_ret
      exact ⟨rfl, rfl⟩
    · have hv : validS s = false := by simp [validS, h0, h1]
      rw [hv]
      have HV := Lib.hid hv
      clear hv h0 h1
      go_enter Try.func28, Try.ntmps28
      go_wp2_with (go_at_call 49; refine (valid_any s w).mono ?_; rintro e w' ⟨he, rfl⟩; rw [HV.out] at he; subst he)
      go_ret
      exact ⟨rfl, rfl⟩

end Go.Proofs.Ytnddahajfcmkiaa
