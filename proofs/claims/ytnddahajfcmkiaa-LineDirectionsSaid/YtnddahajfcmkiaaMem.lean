/- Plain memory lemmas for the walks of this seat: a slice that reads as a list of cells, a block that is known whole, laws for one operation each. Conditions: none. -/
import Derived.Test.YtnddahajfcmkiaaProg
import Derived.WalkKit
import Derived.WalkSpells
import Derived.WalkLawsBesides
import Derived.Deep.AppendLies
import Derived.Deep.WholeRow
import Derived.Deep.RegionHeld3
import Derived.Deep.RegionWith
import Derived.Deep.Draws
import Derived.Deep.QuietTactic
import Derived.BigQuiet
import Derived.Lib.Hide
namespace Go.Proofs.Ytnddahajfcmkiaa
set_option linter.unusedSimpArgs false
set_option linter.unusedVariables false
set_option linter.unnecessarySimpa false
open Go.RowKit

/-! ### where the walk stands -/
theorem at_dst {P : Program} {ops : Array Oper} {Q : Exit → Act → World → Prop} {rest : List Oper} {a : Act} {w : World} {op : Op} {t : TypeId} {p : String} {af : Array Edge} {g : Option (Nat × Bool)} (d : Nat)
    (h : wpList P ops Q (⟨some d, op, t, p, af, g⟩ :: rest) a w) : wpList P ops Q (⟨some d, op, t, p, af, g⟩ :: rest) a w := h
theorem at_store {P : Program} {ops : Array Oper} {Q : Exit → Act → World → Prop} {rest : List Oper} {a : Act} {w : World} {x : Operand} {t : TypeId} {p : String} {af : Array Edge} {g : Option (Nat × Bool)} (ty q : Nat)
    (h : wpList P ops Q (⟨none, .store ty (.tmp q) x, t, p, af, g⟩ :: rest) a w) : wpList P ops Q (⟨none, .store ty (.tmp q) x, t, p, af, g⟩ :: rest) a w := h

/-! ### a slice that reads as a list of cells -/
def Rd (w : World) (g size : Nat) (A : Option Addr) (n : Nat) (xs : List Value) : Prop :=
  xs.length = n * size ∧ (0 < n → g < w.heap.size ∧ ∃ off, A = some ⟨g, off, none⟩ ∧ ∀ j u, xs[j]? = some u → w.cell? ⟨g, off + j, none⟩ = some u)

theorem Rd.nil (w : World) (g size : Nat) (A : Option Addr) : Rd w g size A 0 [] := ⟨by simp, fun h => absurd h (by omega)⟩
theorem Rd.keep {w w' : World} {g size n : Nat} {A : Option Addr} {xs : List Value} (h : Rd w g size A n xs) (hk : g < w.heap.size → w'.heap[g]? = w.heap[g]?) (hz : w.heap.size ≤ w'.heap.size) : Rd w' g size A n xs :=
  ⟨h.1, fun hn => by
    obtain ⟨hg, off, e, hc⟩ := h.2 hn
    exact ⟨by omega, off, e, fun j u hu => (World.cell?_of_block (w := w) (hk hg)).trans (hc j u hu)⟩⟩
theorem Rd.below {w w' : World} {g size n : Nat} {A : Option Addr} {xs : List Value} (h : Rd w g size A n xs) (hb : Below w.heap.size w w') : Rd w' g size A n xs :=
  h.keep (fun hg => hb.block g hg) hb.size
theorem Rd.grown {w w' : World} {g size n : Nat} {A : Option Addr} {xs : List Value} {row : Option Nat} (h : Rd w g size A n xs) (hb : w.grownBy w' row) (hne : some g ≠ row) : Rd w' g size A n xs :=
  h.keep (fun hg => hb.block g hg hne) hb.size
theorem Rd.own {w : World} {base e size n c : Nat} {A : Option Addr} {xs : List Value} (h : w.ownsRow base e size (.slice A n c) n xs) : ∃ g, Rd w g size A n xs ∧ n ≤ c ∧ (0 < n → base ≤ g) := by
  rcases h.2 with ⟨hv, hn⟩ | ⟨g, cap, cur, hv, hb, hg, hnc, _⟩
  · injection hv with h1 h2 h3
    subst hn
    have : xs = [] := List.eq_nil_of_length_eq_zero (by simpa using h.1)
    subst this
    exact ⟨0, Rd.nil _ _ _ _, by omega, fun h => absurd h (by omega)⟩
  · injection hv with h1 h2 h3
    subst h1 h3
    refine ⟨g, ⟨h.1, fun hn => ⟨(Array.getElem?_eq_some_iff.1 hg).1, 0, rfl, fun j u hu => ?_⟩⟩, hnc, fun _ => hb⟩
    have := h.cells (g := g) rfl j u hu
    rwa [Addr.add_lit] at this

/-- element k of a list of structs, `f` its cells -/
theorem getElem?_flatMap {α : Type} {f : α → List Value} {size : Nat} (hf : ∀ x, (f x).length = size) : ∀ (l : List α) (k : Nat) (hk : k < l.length) (j : Nat), j < size → (l.flatMap f)[k * size + j]? = (f l[k])[j]?
  | x :: l, 0, hk, j, hj => by
    simp only [List.flatMap_cons, Nat.zero_mul, Nat.zero_add, List.getElem_cons_zero]
    rw [List.getElem?_append_left (by rw [hf]; exact hj)]
  | x :: l, k + 1, hk, j, hj => by
    simp only [List.flatMap_cons, List.getElem_cons_succ]
    rw [List.getElem?_append_right (by rw [hf, Nat.add_mul]; omega), hf]
    have := getElem?_flatMap hf l k (by simpa using hk) j hj
    rw [← this]
    congr 1
    rw [Nat.add_mul]
    omega
theorem length_flatMap_const {α : Type} {f : α → List Value} {size : Nat} (hf : ∀ x, (f x).length = size) (l : List α) : (l.flatMap f).length = l.length * size := by
  induction l with
  | nil => simp
  | cons x l ih => simp only [List.flatMap_cons, List.length_append, ih, hf, List.length_cons, Nat.add_mul]; omega
theorem Rd.elem {α : Type} {f : α → List Value} {size : Nat} (hf : ∀ x, (f x).length = size) {w : World} {g n : Nat} {A : Option Addr} {l : List α} (h : Rd w g size A n (l.flatMap f)) {k : Nat} (hk : k < l.length) (hn : n = l.length) :
    g < w.heap.size ∧ ∃ off, A = some ⟨g, off, none⟩ ∧ ∀ j u, (f l[k])[j]? = some u → w.cell? ⟨g, off + k * size + j, none⟩ = some u := by
  obtain ⟨hg, off, hA, hc⟩ := h.2 (by omega)
  refine ⟨hg, off, hA, fun j u hu => ?_⟩
  have hj : j < size := by
    have := (List.getElem?_eq_some_iff.1 hu).1
    rwa [hf] at this
  rw [Nat.add_assoc]
  exact hc _ _ (by rw [getElem?_flatMap hf l k hk j hj]; exact hu)

/-! ### a block that is known whole -/
def Blk (w : World) (g : Nat) (t : TypeId) (cs : Array Value) : Prop := w.heap[g]? = some (.cells cs t (0, 0))
section
variable {w w' : World} {g : Nat} {t : TypeId} {cs : Array Value}
theorem Blk.lt (h : Blk w g t cs) : g < w.heap.size := by
  rcases Nat.lt_or_ge g w.heap.size with hlt | hge
  · exact hlt
  · unfold Blk at h; rw [Array.getElem?_eq_none hge] at h; cases h
theorem Blk.cell (h : Blk w g t cs) (i : Nat) : w.cell? ⟨g, i, none⟩ = cs[i]? := cell_of_row w g i cs t (0, 0) h
theorem Blk.frozen (h : Blk w g t cs) (i : Nat) : w.frozen? ⟨g, i, none⟩ = false := by
  unfold Blk at h
  simp [World.frozen?, h]
theorem Blk.new (w : World) (t : TypeId) (cs : Array Value) : Blk (w.alloc (.cells cs t)) w.heap.size t cs := heap_alloc_new w _
theorem Blk.alloc (h : Blk w g t cs) (o : Obj) : Blk (w.alloc o) g t cs := (Below.heap_alloc w o g h.lt).trans h
theorem Blk.set_ (h : Blk w g t cs) (i : Nat) (u : Value) : Blk (w.setCell ⟨g, i, none⟩ u) g t (cs.setIfInBounds i u) := by
  unfold Blk at h ⊢
  simp [World.setCell, Array.getElem?_modify, h]
theorem Blk.far (h : Blk w g t cs) {p : Addr} (hp : g ≠ p.block) (u : Value) : Blk (w.setCell p u) g t cs := (Below.heap_setCell w p u g hp).trans h
theorem Blk.below (h : Blk w g t cs) (hb : Below w.heap.size w w') : Blk w' g t cs := (hb.block g h.lt).trans h
theorem Blk.grown {row : Option Nat} (h : Blk w g t cs) (hb : w.grownBy w' row) (hg : some g ≠ row) : Blk w' g t cs := (hb.block g h.lt hg).trans h
theorem Blk.rd {size n : Nat} {l : List Value} (h : Blk w g t l.toArray) (hl : l.length = n * size) : Rd w g size (some ⟨g, 0, none⟩) n l :=
  ⟨hl, fun _ => ⟨h.lt, 0, rfl, fun j u hu => by rw [h.cell]; simpa using hu⟩⟩
end

theorem grownBy_setCell (w : World) (g i : Nat) (u : Value) : w.grownBy (w.setCell ⟨g, i, none⟩ u) (some g) :=
  ⟨rfl, rfl, rfl, by simp, fun k _ hk => heap_setCell_other w ⟨g, i, none⟩ k u (fun e => hk (by simp [e]))⟩
theorem _root_.Go.World.grownBy.trans' {a b c : World} {row : Option Nat} (h : a.grownBy b row) (k : b.grownBy c row) : a.grownBy c row :=
  ⟨k.os.trans h.os, k.tape.trans h.tape, k.output.trans h.output, Nat.le_trans h.size k.size, fun i hi hn => (k.block i (Nat.lt_of_lt_of_le hi h.size) hn).trans (h.block i hi hn)⟩
theorem _root_.Go.RowKit.Below.grownBy {w w' : World} (h : Below w.heap.size w w') (row : Option Nat) : w.grownBy w' row := ⟨h.os, h.tape, h.output, h.size, fun k hk _ => h.block k hk⟩
theorem _root_.Go.World.grownBy.toBelow {w w' : World} (h : w.grownBy w' none) : Below w.heap.size w w' := ⟨h.os, h.tape, h.output, h.size, fun k hk => h.block k hk (by simp)⟩
theorem _root_.Go.RowKit.Below.trans' {a b c : World} (h : Below a.heap.size a b) (k : Below b.heap.size b c) : Below a.heap.size a c := h.trans (k.mono h.size)

theorem below_undrew {B : Nat} {w w' : World} (h : Below B w.drew w') : Below B w w' := ⟨h.os, h.tape, h.output, h.size, h.block⟩
theorem below_undrewN {B n : Nat} {w w' : World} (h : Below B (w.drewN n) w') : Below B w w' := ⟨h.os, h.tape, h.output, h.size, h.block⟩

/-! ### laws for one operation -/
section
variable {P : Program} {ops : Array Oper} {Q : Exit → Act → World → Prop} {rest : List Oper} {a : Act} {w : World} {t : TypeId} {p : String} {af : Array Edge}

/-- a struct or array is loaded, its cells known -/
theorem run_loadVar_cells (ty : TypeId) (g off : Nat) (cs : List Value) (d : TypeDesc) (hu : P.underlying ty = some d) (hd : (match d with | .struct _ | .array _ _ => true | _ => false) = true)
    (hi : (P.info? ty).map (·.size) = some cs.length) (hc : ∀ j u, cs[j]? = some u → w.cell? ⟨g, off + j, none⟩ = some u) : (loadVar ty ⟨g, off, none⟩).run P w = .ok (.agg cs.toArray) w := by
  have hl := run_loadCells_list (P := P) w ⟨g, off, none⟩ cs (fun j v hv => by rw [Addr.add_lit]; exact hc j v hv)
  cases hq : P.info? ty with
  | none => simp [hq] at hi
  | some i =>
    have hs : i.size = cs.length := by simpa [hq] using hi
    have hagg : (isAgg ty).run P w = .ok true w := by
      unfold isAgg
      rw [Sem.run_bind, run_underlying hu w]
      cases d <;> simp_all
    simp [loadVar, Sem.run_bind, hagg, sizeOf, typeInfo, hq, hs, hl]
theorem wp_load_cells {o : Oper} {K : Act → World → Prop} (ty : TypeId) (x : Operand) (ho : o.op = .load ty x) (g off : Nat) (cs : List Value) (hx : a.eval x = .pointer (some ⟨g, off, none⟩))
    (d : TypeDesc) (hu : P.underlying ty = some d) (hd : (match d with | .struct _ | .array _ _ => true | _ => false) = true)
    (hi : (P.info? ty).map (·.size) = some cs.length) (hc : ∀ j u, cs[j]? = some u → w.cell? ⟨g, off + j, none⟩ = some u)
    (h : K (a.put o.dst (.agg cs.toArray)) w) : o.wp P a w K Q := by
  unfold Oper.wp execOp
  simp only [ho, hx, Instr.loadAt, Instr.sureAddr, Sem.run_bind, Sem.run_pure, Result.andThen_ok, run_loadVar_cells ty g off cs d hu hd hi hc]
  exact h
theorem wpList_load_cells {o : Oper} (hgd : o.guard = none) (ty : TypeId) (x : Operand) (ho : o.op = .load ty x) (g off : Nat) (cs : List Value) (hx : a.eval x = .pointer (some ⟨g, off, none⟩))
    (d : TypeDesc) (hu : P.underlying ty = some d) (hd : (match d with | .struct _ | .array _ _ => true | _ => false) = true)
    (hi : (P.info? ty).map (·.size) = some cs.length) (hc : ∀ j u, cs[j]? = some u → w.cell? ⟨g, off + j, none⟩ = some u)
    (h : wpList P ops Q rest (a.put o.dst (.agg cs.toArray)) w) : wpList P ops Q (o :: rest) a w :=
  wpList_plain hgd fun _ hK => wp_load_cells ty x ho g off cs hx d hu hd hi hc (hK _ _ h)

end
end Go.Proofs.Ytnddahajfcmkiaa
