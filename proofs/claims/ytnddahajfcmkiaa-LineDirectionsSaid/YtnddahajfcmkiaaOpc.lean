/- A description as an argument, opened. Conditions: none. -/
import Derived.Test.YtnddahajfcmkiaaOpn
import Derived.Test.YtnddahajfcmkiaaGen
import Derived.Lib.SmallJoins
namespace Go.Proofs.Ytnddahajfcmkiaa
set_option linter.unusedSimpArgs false
set_option linter.unusedVariables false
set_option linter.unnecessarySimpa false
open Go.RowKit Go.ChangeShapes Go.WideShapes Go.ChangeAt Go.Joins
theorem flat88 : flatK Try.prog 2 88 = some [.i64, .i64] := by kernel_rfl
theorem wn_of_ints {x : List Value} (h : Ints [.i64, .i64] x) : ∃ a : Wn, x = winc a := by
  cases x with
  | nil => exact absurd h id
  | cons a t =>
    obtain ⟨⟨n, rfl, _⟩, h2⟩ := h
    cases t with
    | nil => exact absurd h2 id
    | cons b t =>
      obtain ⟨⟨m, rfl, _⟩, h3⟩ := h2
      cases t with
      | nil => exact ⟨⟨n, m⟩, rfl⟩
      | cons _ _ => exact absurd h3 id
set_option maxRecDepth 100000 in
theorem open_c {H : Type} {enc : TypeId × Value → H} {w : World} {base : Nat} {sp : Nat → Bool} {held : Bool} {v : Value} {d : DataW H} {ps : List MemPlace} {r : Reach} {b0 : Nat} (hval : Value.okWide Try.prog w r b0 24 v) (h : DataW.Trod enc Try.prog w base sp held 24 v d ps) :
    ∃ c : Cfg, ∃ A cap g, v = .agg (cfgc c A cap).toArray ∧ Rd w g 2 A c.ws.length (c.ws.flatMap winc) ∧ c.ws.length ≤ cap ∧ cap ≤ maxLen := by
  obtain ⟨v0, v1, v2, v3, y0, y1, y2, y3, n, rfl, rfl, rfl, h0, h1, h2, h3⟩ := open_agg4 Try.underlying24 (by kernel_rfl) (by kernel_rfl) hval h
  obtain ⟨rt, e0, _, _⟩ := DataW.trod_int Try.underlying3 h0
  obtain ⟨dl, e1, _, _⟩ := DataW.trod_int Try.underlying3 h1
  obtain ⟨pd, e2, _, _⟩ := DataW.trod_int Try.underlying3 h2
  simp only [List.cons.injEq, and_true] at e0 e1 e2
  subst e0 e1 e2
  obtain ⟨A, n', c, g, es, q1, q2, q3, q4, q5, q6⟩ := open_flat (v := .agg #[v3]) (size := 2) Try.underlying22 flat88 (by kernel_rfl) (by simp) ⟨n, by simpa [Value.cells] using h3⟩
  obtain ⟨l, rfl⟩ := list_of (fun x hx => wn_of_ints hx) es q5
  simp only [Value.cells, List.cons.injEq, and_true] at q1
  subst q1
  rw [List.length_map] at q2
  subst q2
  exact ⟨⟨rt, dl, pd, l⟩, A, c, g, rfl, rd_of_cells winc_len (by decide) q6, q3, q4⟩
end Go.Proofs.Ytnddahajfcmkiaa
