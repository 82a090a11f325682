/- A slice of operations as an argument, opened. Conditions: none. -/
import Derived.Test.YtnddahajfcmkiaaOpc
import Derived.Test.YtnddahajfcmkiaaNk
namespace Go.Proofs.Ytnddahajfcmkiaa
set_option linter.unusedSimpArgs false
set_option linter.unusedVariables false
set_option linter.unnecessarySimpa false
open Go.RowKit Go.ChangeShapes Go.WideShapes Go.ChangeAt Go.Joins
set_option maxRecDepth 100000 in
/-- a slice that came in: it reads as the list of its elements' cells, of each of which q is known -/
theorem open_rows {H : Type} {enc : TypeId × Value → H} {P : Program} {w : World} {base : Nat} {sp : Nat → Bool} {held : Bool} {t e : TypeId} {v : Value} {d : DataW H} {ps : List MemPlace} {size : Nat} {q : List Value → Prop} (ht : P.underlying t = some (.slice e)) (hk : ∀ n cs x, DataW.trod enc P w base sp held n e cs = some x → q cs) (hq : ∀ x, q x → 0 < x.length) (hc : P.cellsOf e = size)
    (h : DataW.Trod enc P w base sp held t v d ps) : ∃ A n c g, ∃ es : List (List Value), v.cells.toList = [.slice A n c] ∧ es.length = n ∧ n ≤ c ∧ c ≤ maxLen ∧ (∀ x ∈ es, q x) ∧ (0 < n → ∃ off, A = some ⟨g, off, none⟩ ∧ ∀ i x, es[i]? = some x → ∀ j u, x[j]? = some u → w.cell? ⟨g, off + i * size + j, none⟩ = some u) := by
  obtain ⟨fuel, hf⟩ := h
  rcases Go.Deep.open_slice ht hf with ⟨h1, _⟩ | ⟨a, len, cap, m, n, D, Pl, h1, _, hl, hm, hmm, _, hx⟩
  · exact ⟨none, 0, 0, 0, [], h1, rfl, Nat.le_refl _, by simp [maxLen], by simp, fun h => absurd h (by omega)⟩
  · have hlm : len ≤ m := by rw [hmm]; split <;> omega
    have hall : ∀ i, i < len → ∃ x, q x ∧ ∀ j u, x[j]? = some u → w.cell? ((a.add (i * size)).add j) = some u := by
      intro i hi
      obtain ⟨cs', h2, h3⟩ := hx i (by omega)
      obtain ⟨_, hlen, hcell⟩ := World.cells?_some h2
      rw [hc] at hcell hlen
      refine ⟨cs', hk n cs' _ h3, fun j u hu => ?_⟩
      have hj : j < size := by
        have := (List.getElem?_eq_some_iff.1 hu).1
        omega
      rw [hcell j hj, hu]
    have hes : ∀ k, k ≤ len → ∃ es : List (List Value), es.length = k ∧ (∀ x ∈ es, q x) ∧ ∀ i x, es[i]? = some x → ∀ j u, x[j]? = some u → w.cell? ((a.add (i * size)).add j) = some u := by
      intro k
      induction k with
      | zero => exact fun _ => ⟨[], rfl, by simp, by simp⟩
      | succ k ih =>
        intro hk'
        obtain ⟨es, e1, e2, e3⟩ := ih (by omega)
        obtain ⟨x, x1, x2⟩ := hall k (by omega)
        refine ⟨es ++ [x], by simp [e1], fun y hy => ?_, fun i y hy => ?_⟩
        · rcases List.mem_append.1 hy with hy | hy
          · exact e2 y hy
          · obtain rfl : y = x := by simpa using hy
            exact x1
        · by_cases hi : i < es.length
          · rw [List.getElem?_append_left hi] at hy
            exact e3 i y hy
          · rw [List.getElem?_append_right (by omega)] at hy
            have hi' : i - es.length = 0 := by
              have := (List.getElem?_eq_some_iff.1 hy).1
              simp at this; omega
            rw [hi'] at hy
            obtain rfl : x = y := by simpa using hy
            obtain rfl : i = k := by omega
            exact x2
    obtain ⟨es, e1, e2, e3⟩ := hes len (Nat.le_refl _)
    refine ⟨some a, len, cap, a.block, es, h1, e1, hl, hm, e2, fun hp => ?_⟩
    have h0 : 0 < es.length := by omega
    have h00 := hq _ (e2 es[0] (List.getElem_mem h0))
    obtain ⟨b, off, spot⟩ := a
    have hspot : spot = none := by
      have := World.cell?_spot (e3 0 es[0] (List.getElem?_eq_getElem h0) 0 es[0][0] (List.getElem?_eq_getElem (by omega)))
      simpa [Addr.add] using this
    subst hspot
    refine ⟨off, rfl, fun i x hi j u hu => ?_⟩
    have := e3 i x hi j u hu
    rwa [Addr.add_lit, Addr.add_lit] at this
def IsOp (cs : List Value) : Prop := ∃ o : OpL, cs = oplc o ∧ o.kind < 256 ∧ o.text.size ≤ maxLen
theorem IsOp.pos (cs : List Value) (h : IsOp cs) : 0 < cs.length := by
  obtain ⟨o, rfl, _⟩ := h
  simp [oplc]
theorem u8_bd {n : Int} (h : (Lit.int .u8 n).wf = true) : 0 ≤ n ∧ n ≤ 255 := by
  simp only [Lit.wf, Bool.and_eq_true, decide_eq_true_eq] at h
  exact h
set_option maxRecDepth 100000 in
theorem op_of_trod {H : Type} {enc : TypeId × Value → H} {w : World} {base : Nat} {sp : Nat → Bool} {held : Bool} (n : Nat) (cs : List Value) (x : DataW H × List MemPlace) (h : DataW.trod enc Try.prog w base sp held n 27 cs = some x) : IsOp cs := by
  obtain ⟨y0, y1, y2, y3, m, hx, hl, h0, h1, h2, h3⟩ := trod_struct4 Try.underlying27 h
  have hlen : cs.length = 4 := hl.trans (by kernel_rfl)
  obtain ⟨c0, c1, c2, c3, rfl⟩ : ∃ a b c d, cs = [a, b, c, d] := by
    cases cs with
    | nil => simp at hlen
    | cons a cs => cases cs with
      | nil => simp at hlen
      | cons b cs => cases cs with
        | nil => simp at hlen
        | cons c cs => cases cs with
          | nil => simp at hlen
          | cons d cs => cases cs with
            | nil => exact ⟨a, b, c, d, rfl⟩
            | cons _ _ => simp at hlen
  obtain ⟨k, e0, _, w0⟩ := DataW.trod_int Try.underlying5 h0
  obtain ⟨s, e1, _, _⟩ := DataW.trod_int Try.underlying3 h1
  obtain ⟨t, e2, _, ht⟩ := DataW.trod_string Try.underlying9 h2
  obtain ⟨m, e3, _, _⟩ := DataW.trod_int Try.underlying3 h3
  have d0 : c0 = .int .u8 k := by have : [c0] = [Value.int .u8 k] := e0; simpa using this
  have d1 : c1 = .int .i64 s := by have : [c1] = [Value.int .i64 s] := e1; simpa using this
  have d2 : c2 = .string t := by have : [c2] = [Value.string t] := e2; simpa using this
  have d3 : c3 = .int .i64 m := by have : [c3] = [Value.int .i64 m] := e3; simpa using this
  have hb := u8_bd w0
  refine ⟨⟨k.toNat, s, t, m⟩, ?_, by simp only; omega, ht⟩
  rw [d0, d1, d2, d3]
  simp only [oplc]
  rw [show ((k.toNat : Nat) : Int) = k by omega]
set_option maxRecDepth 100000 in
theorem open_ops {H : Type} {enc : TypeId × Value → H} {w : World} {base : Nat} {sp : Nat → Bool} {held : Bool} {v : Value} {d : DataW H} {ps : List MemPlace} {r : Reach} {b0 : Nat} (hval : Value.okWide Try.prog w r b0 25 v) (h : DataW.Trod enc Try.prog w base sp held 25 v d ps) :
    ∃ A c g, ∃ l : List OpL, v = .slice A l.length c ∧ Rd w g 4 A l.length (l.flatMap oplc) ∧ l.length ≤ maxLen ∧ ∀ o ∈ l, o.kind < 256 ∧ o.text.size ≤ maxLen := by
  obtain ⟨a0, n0, c0, rfl⟩ := okWide_slice Try.underlying25 hval
  obtain ⟨A, n, c, g, es, h1, h2, h3, h4, h5, h6⟩ := open_rows (size := 4) (q := IsOp) Try.underlying25 op_of_trod IsOp.pos (by kernel_rfl) h
  have hl : ∃ l : List OpL, es = l.map oplc ∧ ∀ o ∈ l, o.kind < 256 ∧ o.text.size ≤ maxLen := by
    clear h2 h6
    induction es with
    | nil => exact ⟨[], rfl, fun _ h => by cases h⟩
    | cons x es ih =>
      obtain ⟨o, rfl, ho⟩ := h5 x (by simp)
      obtain ⟨l, rfl, hl⟩ := ih fun y hy => h5 y (by simp [hy])
      refine ⟨o :: l, rfl, fun p hp => ?_⟩
      rcases List.mem_cons.1 hp with rfl | hp
      · exact ho
      · exact hl p hp
  obtain ⟨l, rfl, hl⟩ := hl
  simp only [Value.cells, List.cons.injEq, Value.slice.injEq, and_true] at h1
  obtain ⟨rfl, rfl, rfl⟩ := h1
  rw [List.length_map] at h2
  subst h2
  exact ⟨a0, c0, g, l, rfl, rd_of_cells oplc_len (by decide) h6, by omega, hl⟩
end Go.Proofs.Ytnddahajfcmkiaa
