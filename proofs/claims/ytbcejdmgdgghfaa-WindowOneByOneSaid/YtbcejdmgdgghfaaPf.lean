/- WindowOneByOne: the lists of offers and of picks, opened. Conditions: none. -/
import Derived.Test.YtbcejdmgdgghfaaWq
import Derived.Test.YtbcejdmgdgghfaaPd
namespace Go.Proofs.Ytbcejdmgdgghfaa
set_option linter.unusedSimpArgs false
set_option linter.unusedVariables false
set_option linter.unnecessarySimpa false
open Go.ChangeShapes Go.WideShapes Go.ChangeAt Go.RowKit

theorem flat40 : flatK Try.prog 3 40 = some [.u8, .u8] := by kernel_rfl
theorem flat5 : flatK Try.prog 1 5 = some [.u8] := by kernel_rfl
theorem of_of_ints {cs : List Value} (h : Ints [.u8, .u8] cs) : ∃ o : Of, cs = ofc o := by
  obtain ⟨ks, h1, h2⟩ := bytes_of_ints 2 cs h
  match ks, h1 with
  | [a, b], _ => exact ⟨⟨a, b⟩, by simp [h2, ofc]⟩
theorem byte_of_ints {cs : List Value} (h : Ints [.u8] cs) : ∃ k : UInt8, cs = [.int .u8 k.toNat] := by
  obtain ⟨ks, h1, h2⟩ := bytes_of_ints 1 cs h
  match ks, h1 with
  | [a], _ => exact ⟨a, by simp [h2]⟩
theorem open_offers {H : Type} {enc : TypeId × Value → H} {w : World} {base : Nat} {sp : Nat → Bool} {held : Bool} {v : Value} {d : DataW H} {ps : List MemPlace} {r : Reach} {b0 : Nat} (hval : Value.okWide Try.prog w r b0 22 v) (h : DataW.Trod enc Try.prog w base sp held 22 v d ps) :
    ∃ A c g, ∃ l : List Of, v = .slice A l.length c ∧ Rd w g 2 A l.length (l.flatMap ofc) ∧ l.length ≤ maxLen := by
  obtain ⟨a0, n0, c0, rfl⟩ := okWide_slice Try.underlying22 hval
  obtain ⟨A, n, c, g, es, h1, h2, h3, h4, h5, h6⟩ := open_flat (size := 2) Try.underlying22 flat40 (by kernel_rfl) (by simp) h
  obtain ⟨l, rfl⟩ := list_of (fun x hx => of_of_ints hx) es h5
  simp only [Value.cells, List.cons.injEq, Value.slice.injEq, and_true] at h1
  obtain ⟨rfl, rfl, rfl⟩ := h1
  rw [List.length_map] at h2
  subst h2
  exact ⟨a0, c0, g, l, rfl, rd_of_cells ofc_len (by decide) h6, by omega⟩
theorem open_picks {H : Type} {enc : TypeId × Value → H} {w : World} {base : Nat} {sp : Nat → Bool} {held : Bool} {v : Value} {d : DataW H} {ps : List MemPlace} {r : Reach} {b0 : Nat} (hval : Value.okWide Try.prog w r b0 23 v) (h : DataW.Trod enc Try.prog w base sp held 23 v d ps) :
    ∃ A c g, ∃ l : List UInt8, v = .slice A l.length c ∧ Rd w g 1 A l.length (l.flatMap fun x => [Value.int .u8 x.toNat]) ∧ l.length ≤ maxLen := by
  obtain ⟨a0, n0, c0, rfl⟩ := okWide_slice Try.underlying23 hval
  obtain ⟨A, n, c, g, es, h1, h2, h3, h4, h5, h6⟩ := open_flat (size := 1) Try.underlying23 flat5 (by kernel_rfl) (by simp) h
  obtain ⟨l, rfl⟩ := list_of (f := fun x : UInt8 => [Value.int .u8 x.toNat]) (fun x hx => byte_of_ints hx) es h5
  simp only [Value.cells, List.cons.injEq, Value.slice.injEq, and_true] at h1
  obtain ⟨rfl, rfl, rfl⟩ := h1
  rw [List.length_map] at h2
  subst h2
  exact ⟨a0, c0, g, l, rfl, rd_of_cells (f := fun x : UInt8 => [Value.int .u8 x.toNat]) (size := 1) (fun _ => rfl) (by decide) h6, by omega⟩
end Go.Proofs.Ytbcejdmgdgghfaa
