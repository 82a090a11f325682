/- The line: a flight appended to the flights that a line owns; what a pass may change. Conditions: fewer than 100,000 flights. -/
import Derived.Test.YtnddahajfcmkiaaTok
import Derived.ArgAppend
namespace Go.Proofs.Ytnddahajfcmkiaa
set_option linter.unusedSimpArgs false
set_option linter.unusedVariables false
set_option linter.unnecessarySimpa false
open Go.RowKit

def AppOut (w : World) (g n c : Nat) (A : Option Addr) (xs : List Value) (f : Fl) (v : Value) (w' : World) : Prop :=
  (0 < c ∧ w.grownBy w' (some g) ∧ v = .slice A (n + 1) c ∧ OT w' g A (n + 1) c (xs ++ flc f)) ∨ (Below w.heap.size w w' ∧ ∃ g' A' c', v = .slice A' (n + 1) c' ∧ OT w' g' A' (n + 1) c' (xs ++ flc f) ∧ w.heap.size ≤ g')
theorem getElem?_pair {a b u : Value} {j : Nat} (h : [a, b][j]? = some u) : (j = 0 ∧ u = a) ∨ (j = 1 ∧ u = b) := by
  match j, h with
  | 0, h => exact .inl ⟨rfl, by simpa using h.symm⟩
  | 1, h => exact .inr ⟨rfl, by simpa using h.symm⟩
/-- the cells of an own tail behind an append that had room -/
theorem OT.room {w w' : World} {g n c off : Nat} {A : Option Addr} {xs : List Value} {f : Fl} {cur : Array Value} (h : OT w g A n c xs) (hA : A = some ⟨g, off, none⟩) (hsz : off + c * 2 ≤ cur.size) (hc : ∀ j u, xs[j]? = some u → cur[off + j]? = some u) (hr : n + 1 ≤ c)
    (hb : Blk w' g 95 ((cur.setIfInBounds (off + n * 2) (.int .i64 f.at_)).setIfInBounds (off + n * 2 + 1) (.string f.text))) : OT w' g A (n + 1) c (xs ++ flc f) := by
  refine ⟨hr, by rw [List.length_append, h.2.1, flc_len]; omega, fun _ => ⟨off, _, hA, hb, by simp; omega, fun j u hu => ?_⟩⟩
  rcases Nat.lt_or_ge j (n * 2) with hj | hj
  · rw [List.getElem?_append_left (by rw [h.2.1]; exact hj)] at hu
    rw [Array.getElem?_setIfInBounds_ne (by omega), Array.getElem?_setIfInBounds_ne (by omega)]
    exact hc j u hu
  · rw [List.getElem?_append_right (by rw [h.2.1]; exact hj), h.2.1] at hu
    rcases getElem?_pair hu with ⟨hj0, rfl⟩ | ⟨hj1, rfl⟩
    · have e : off + j = off + n * 2 := by omega
      rw [e, Array.getElem?_setIfInBounds_ne (by omega), Array.getElem?_setIfInBounds_self]
      rw [if_pos (by omega)]
    · have e : off + j = off + n * 2 + 1 := by omega
      rw [e, Array.getElem?_setIfInBounds_self]
      rw [if_pos (by simp; omega)]
theorem wp_append_OT {o : Oper} {a : Act} {w : World} {K : Act → World → Prop} {Q : Exit → Act → World → Prop} (s x : Operand) (hop : o.op = .call { callee := .builtin .append, args := #[s, x], argTypes := #[82, 82] })
    (g n c : Nat) (A : Option Addr) (xs : List Value) (hs : a.eval s = .slice A n c) (hO : OT w g A n c xs) (hn : n ≤ 1000000) (f : Fl) (q cx : Nat) (hx : a.eval x = .slice (some ⟨q, 0, none⟩) 1 cx) (hq : Blk w q 95 (flc f).toArray)
    (h : ∀ v w', AppOut w g n c A xs f v w' → K (a.put o.dst v) w') : o.wp Try.prog a w K Q := by
  obtain ⟨i0, hi0, hz0, hz1, hz2⟩ := info_parts info95'
  have hnews : ∀ j u, (flc f)[j]? = some u → w.cell? ((⟨q, 0, none⟩ : Addr).add j) = some u := fun j u hu => by
    rw [Addr.add_lit, Nat.zero_add, hq.cell, List.getElem?_toArray]; exact hu
  by_cases hr : n + 1 ≤ c
  · obtain ⟨off, cur, rfl, hb, hsz, hc⟩ := hO.2.2 (by omega)
    have hrun := run_append_room_cells (P := Try.prog) w 82 o.type 95 i0 Try.underlying82 hi0 g off n c ⟨q, 0, none⟩ 1 cx (flc f) (by rw [hz1, flc_len]) hnews (oneCell_flc f) hr
      (fun j hj => by
        rw [flc_len] at hj
        rw [hb.cell, hz1]
        rw [Array.getElem?_eq_getElem (by omega)]; rfl)
      (fun j _ => hb.frozen _)
    unfold Oper.wp
    simp only [execOp, hop, resolve, invoke, builtin, Sem.run_bind, Sem.run_pure, Result.andThen_ok, List.map_toArray, List.map_cons, List.map_nil, hs, hx, hrun]
    have hb2 : Blk (w.setCells g (off + n * i0.size) (flc f)) g 95 ((cur.setIfInBounds (off + n * 2) (.int .i64 f.at_)).setIfInBounds (off + n * 2 + 1) (.string f.text)) := by
      rw [hz1]
      exact (hb.set_ _ _).set_ _ _
    have hO2 := hO.room rfl hsz hc hr hb2
    have hg2 : w.grownBy (w.setCells g (off + n * i0.size) (flc f)) (some g) := (grownBy_setCell w g _ _).trans' (grownBy_setCell _ g _ _)
    exact h _ _ (.inl ⟨by omega, hg2, rfl, hO2⟩)
  · have fin : ∀ v' w', w'.ownsRow w.heap.size 95 2 v' (n + 1) (xs ++ flc f) → Below w.heap.size w w' → AppOut w g n c A xs f v' w' := by
      intro v' w' ho hbl
      rcases ho.2 with ⟨_, he⟩ | ⟨g', cap, cur, rfl, hbs, hg, hnc, _, hcs, ht⟩
      · omega
      · refine .inr ⟨hbl, g', _, cap, rfl, ⟨hnc, ho.1, fun _ => ⟨0, cur, rfl, hg, by omega, fun j u hu => ?_⟩⟩, hbs⟩
        rw [Nat.zero_add]
        rw [← ht] at hu
        have hj : j < (n + 1) * 2 := by
          have := (List.getElem?_eq_some_iff.1 hu).1
          simp at this; omega
        rw [List.getElem?_take_of_lt hj] at hu
        simpa using hu
    cases A with
    | none =>
      have hc0 : c = 0 := by
        rcases Nat.eq_zero_or_pos c with h0 | h0
        · exact h0
        · obtain ⟨off, cur, e, _⟩ := hO.2.2 h0; cases e
      have hn0 : n = 0 := by have := hO.1; omega
      subst hc0 hn0
      obtain rfl : xs = [] := List.eq_nil_of_length_eq_zero (by simpa using hO.2.1)
      obtain ⟨v', w', hrun, r1, r2, _⟩ := run_append_own (P := Try.prog) w w.heap.size 82 o.type 95 i0 z95 2 24 Try.underlying82 hi0 hz0 hz1 hz2 rfl (by decide) (.slice none 0 0) 0 [] (World.ownsRow_nil w _ 95 2) ⟨q, 0, none⟩ 1 cx (flc f) rfl hnews (oneCell_flc f) (by unfold maxLen; omega) (by omega) (Nat.le_refl _)
      unfold Oper.wp
      simp only [execOp, hop, resolve, invoke, builtin, Sem.run_bind, Sem.run_pure, Result.andThen_ok, List.map_toArray, List.map_cons, List.map_nil, hs, hx, hrun]
      exact h v' w' (fin _ _ r1 r2.toBelow)
    | some b =>
      have holds : ∀ j u, xs[j]? = some u → w.cell? (b.add j) = some u := by
        intro j u hu
        have hj := (List.getElem?_eq_some_iff.1 hu).1
        have hc0 : 0 < c := by have := hO.1; have := hO.2.1; omega
        obtain ⟨off, cur, e, hb, hsz, hc⟩ := hO.2.2 hc0
        have e := Option.some.inj e
        rw [e, Addr.add_lit, hb.cell]
        exact hc j u hu
      obtain ⟨v', w', hrun, r1, r2⟩ := run_append_arg_grows (P := Try.prog) w 82 o.type 95 i0 z95 2 24 Try.underlying82 hi0 hz0 hz1 hz2 rfl (by decide) b n c xs hO.2.1 holds ⟨q, 0, none⟩ 1 cx (flc f) rfl hnews (by omega) (by unfold maxLen; omega) (by omega)
      unfold Oper.wp
      simp only [execOp, hop, resolve, invoke, builtin, Sem.run_bind, Sem.run_pure, Result.andThen_ok, List.map_toArray, List.map_cons, List.map_nil, hs, hx, hrun]
      exact h v' w' (fin _ _ r1 r2.toBelow)
/-- what a line may change: blocks of F and those from B on -/
structure Keep (F : Nat → Prop) (B : Nat) (w w' : World) : Prop where
  os : w'.os = w.os
  tape : w'.tape = w.tape
  output : w'.output = w.output
  size : w.heap.size ≤ w'.heap.size
  block : ∀ k, k < B → k < w.heap.size → ¬ F k → w'.heap[k]? = w.heap[k]?
theorem Keep.refl (F : Nat → Prop) (B : Nat) (w : World) : Keep F B w w := ⟨rfl, rfl, rfl, Nat.le_refl _, fun _ _ _ _ => rfl⟩
theorem Keep.trans {F : Nat → Prop} {B : Nat} {x y z : World} (h : Keep F B x y) (k : Keep F B y z) : Keep F B x z :=
  ⟨k.os.trans h.os, k.tape.trans h.tape, k.output.trans h.output, Nat.le_trans h.size k.size, fun i h1 h2 h3 => (k.block i h1 (Nat.lt_of_lt_of_le h2 h.size) h3).trans (h.block i h1 h2 h3)⟩
theorem Keep.of_below {F : Nat → Prop} {B : Nat} {w w' : World} (h : Below w.heap.size w w') : Keep F B w w' := ⟨h.os, h.tape, h.output, h.size, fun k _ h2 _ => h.block k h2⟩
theorem Keep.of_grown {F : Nat → Prop} {B g : Nat} {w w' : World} (h : w.grownBy w' (some g)) (hg : F g ∨ B ≤ g) : Keep F B w w' :=
  ⟨h.os, h.tape, h.output, h.size, fun k h1 h2 h3 => h.block k h2 fun e => by
    injection e with e
    subst e
    rcases hg with hg | hg
    · exact h3 hg
    · omega⟩
/-- the line at b owns what it may change -/
def POwn (F : Nat → Prop) (B : Nat) (w : World) (b : Nat) (L : Ln) (gw : Nat) (A : Option Addr) (c : Nat) : Prop :=
  ∃ g0 g1 A0 A1 c0 c1, LnO w b L gw g0 g1 A A0 A1 c c0 c1 ∧ (F b ∨ B ≤ b) ∧ (0 < c0 → F g0 ∨ B ≤ g0) ∧ (0 < c1 → F g1 ∨ B ≤ g1)
end Go.Proofs.Ytnddahajfcmkiaa
