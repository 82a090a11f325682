/- A map by identity, as a function of identities. Conditions: none. -/
import Derived.Test.YtbcejdmgdgghfaaWq
import Derived.Maps.OwnOps
import Derived.Maps.Views
import Derived.DeepKeys4
namespace Go.Proofs.Ytbcejdmgdgghfaa
set_option linter.unusedSimpArgs false
set_option linter.unusedVariables false
set_option linter.unnecessarySimpa false
open Go.RowKit Go.Maps Go.ChangeShapes Go.WideShapes

theorem laidOut : laidOutB Try.prog = true := by kernel_rfl
theorem law37 : Go.WideMaps.KeyLaw Try.prog 37 := deep_law_laid laidOut (m := 2) (by omega) (of_decide_eq_true (by kernel_rfl)) (by kernel_rfl) (by rw [Try.underlying37])
theorem keyed37 : Keyed Try.prog 37 := Keyed.of_law law37
theorem mapM_some {α β : Type} {f : α → Option β} : ∀ (l : List α), (∀ x ∈ l, ∃ y, f x = some y) → ∃ ys, l.mapM f = some ys
  | [], _ => ⟨[], rfl⟩
  | x :: l, h => by
    obtain ⟨y, hy⟩ := h x (by simp)
    obtain ⟨ys, hys⟩ := mapM_some l fun z hz => h z (by simp [hz])
    exact ⟨y :: ys, by simp [List.mapM_cons, hy, hys]⟩
theorem key_some (i : Id) : ∃ kl, keyOf Try.prog 37 (.agg (idc i).toArray) = some kl := by
  obtain ⟨m, hm⟩ : ∃ m, Try.prog.types.size = m + 1 := ⟨Try.prog.types.size - 1, by kernel_rfl⟩
  have hc37 : Try.prog.cellsOf 37 = 32 := by kernel_rfl
  have hc5 : Try.prog.cellsOf 5 = 1 := by kernel_rfl
  have hk : Try.prog.keyType 37 = true := by kernel_rfl
  have hf : (Value.agg (idc i).toArray).formed Try.prog 37 = true := by simp [Value.formed, Try.underlying37, hc37, idc_len]
  have h1 : ∀ j, j < 32 → ∃ y, Try.prog.keyLits (m + 1) 5 (((idc i).drop (j * 1)).take 1) = some y := by
    intro j hj
    have hl := idc_len i
    have e : ((idc i).drop (j * 1)).take 1 = [(idc i)[j]'(by omega)] := by
      rw [Nat.mul_one, List.drop_eq_getElem_cons (by omega)]; rfl
    rw [e]
    have he : (idc i)[j]'(by omega) = .int .u8 (i.bytes[j]'(by rw [i.len]; omega)).toNat := by simp [idc]
    rw [he]
    unfold Program.keyLits
    simp only [Try.underlying5]
    have hlt := (i.bytes[j]'(by rw [i.len]; omega)).toNat_lt
    refine ⟨_, if_pos ⟨trivial, ?_⟩⟩
    have e1 : IntKind.u8.min = 0 := by decide
    have e2 : IntKind.u8.max = 255 := by decide
    simp only [Lit.wf, e1, e2, Bool.and_eq_true, decide_eq_true_eq]
    omega
  have h2 : ∃ ls, Try.prog.keyLits (Try.prog.types.size + 1) 37 (idc i) = some ls := by
    rw [hm]
    unfold Program.keyLits
    simp only [Try.underlying37, hc37, hc5, idc_len, if_true]
    obtain ⟨ys, hys⟩ := mapM_some (List.range 32) fun j hj => h1 j (by simpa using hj)
    exact ⟨ys.flatten, by simp only [hys, Option.map_some]⟩
  obtain ⟨ls, h2⟩ := h2
  refine ⟨.string (keyBytes ls), ?_⟩
  unfold keyOf
  simp only [Try.underlying37, hk, hf, Bool.and_self, if_true, Value.cells, h2, Option.map_some]
noncomputable def keyL (i : Id) : Lit := Classical.choose (key_some i)
theorem key_id (i : Id) : keyOf Try.prog 37 (.agg (idc i).toArray) = some (keyL i) := Classical.choose_spec (key_some i)
theorem keyL_inj {i j : Id} (h : keyL i = keyL j) : i = j := by
  have hi := key_id i
  have hj := key_id j
  rw [h] at hi
  have e := keyed37.inj hi hj
  have e := congrArg Array.toList (Value.agg.inj e)
  simp only at e
  rw [idc_eq, idc_eq] at e
  refine idn_inj ?_
  have hmm : ∀ l m : List Int, l.map (Value.int .u8) = m.map (Value.int .u8) → l = m := by
    intro l
    induction l with
    | nil => intro m hm; cases m with
      | nil => rfl
      | cons y m => simp at hm
    | cons x l ih => intro m hm; cases m with
      | nil => simp at hm
      | cons y m =>
        simp only [List.map_cons, List.cons.injEq, Value.int.injEq, true_and] at hm
        rw [hm.1, ih m hm.2]
  exact hmm _ _ e

/-- block b is a map of at most n entries that reads as the function f (0 where there is none) -/
def MapI (w : World) (b n : Nat) (f : Id → Int) : Prop :=
  ∃ D : DataW Unit, w.ownsMap Try.prog 37 (plainElem Try.prog 3) b n D ∧ IsMap D ∧ ∀ i, D.atKey (keyL i) (.lit (.int .i64 0)) = .lit (.int .i64 (f i))
theorem MapI.kept {w w' : World} {b n : Nat} {f : Id → Int} {row : Option Nat} (h : MapI w b n f) (hg : w.grownBy w' row) (hne : some b ≠ row) : MapI w' b n f := by
  obtain ⟨D, h1, h2, h3⟩ := h
  exact ⟨D, h1.kept hg hne, h2, h3⟩
theorem MapI.below {w w' : World} {b n : Nat} {f : Id → Int} (h : MapI w b n f) (hb : Below w.heap.size w w') : MapI w' b n f := h.kept (hb.grownBy none) (by simp)
theorem MapI.made (w : World) : MapI (w.alloc (.map #[] 0)) w.heap.size 0 (fun _ => 0) :=
  ⟨.map [], World.ownsMap_made w _ _ _, isMap_empty, fun _ => rfl⟩
theorem MapI.mono {w : World} {b n n' : Nat} {f : Id → Int} (h : MapI w b n f) (hn : n ≤ n') : MapI w b n' f := by
  obtain ⟨D, h1, h2, h3⟩ := h
  exact ⟨D, h1.mono hn, h2, h3⟩
theorem MapI.lt {w : World} {b n : Nat} {f : Id → Int} (h : MapI w b n f) : b < w.heap.size := by
  obtain ⟨D, h1, _, _⟩ := h
  exact h1.lt
def upd (f : Id → Int) (i : Id) (x : Int) : Id → Int := fun j => if j = i then x else f j
theorem zero3 (w : World) : (zeroValue 3).run Try.prog w = .ok (.int .i64 0) w := by kernel_rfl
section
variable {ops : Array Oper} {Q : Exit → Act → World → Prop} {rest : List Oper} {a : Act} {w : World} {o : Oper}
theorem wpList_mapget (hw : Region.wanted o (yielded ops a.tmps) = true) (m x : Operand) (hop : o.op = Op.lookup 55 m x false) (b n : Nat) (f : Id → Int) (hown : MapI w b n f) (i : Id) (hm : a.eval m = .map (some b)) (hx : a.eval x = .agg (idc i).toArray)
    (hK : wpList Try.prog ops Q rest (a.put o.dst (.int .i64 (f i))) w) : wpList Try.prog ops Q (o :: rest) a w := by
  obtain ⟨D, h1, h2, h3⟩ := hown
  refine wpList_step fun K' hK' => ?_
  rw [if_pos hw]
  obtain ⟨c, hrun, hat, hwc⟩ := h1.lookup_int keyed37 Try.underlying55 Try.underlying3 (zero3 w) (key_id i)
  have hc : c = f i := by
    rw [h3 i] at hat
    simpa using hat.symm
  subst hc
  unfold Oper.wp
  simp [execOp, hop, hm, hx, hrun, Result.andThen]
  exact hK' _ _ hK
theorem wpList_mapput (hg : o.guard = none) (m x v : Operand) (hop : o.op = Op.mapUpdate 55 m x v) (b n : Nat) (f : Id → Int) (hown : MapI w b n f) (hn : n < maxLen) (i : Id) (z : Int) (hz : (Lit.int .i64 z).wf = true) (hm : a.eval m = .map (some b)) (hx : a.eval x = .agg (idc i).toArray) (hv : a.eval v = .int .i64 z)
    (hK : ∀ w', MapI w' b (n + 1) (upd f i z) → w.grownBy w' (some b) → wpList Try.prog ops Q rest (a.put o.dst undef) w') : wpList Try.prog ops Q (o :: rest) a w := by
  obtain ⟨D, h1, h2, h3⟩ := hown
  refine wpList_mapUpdate_own w hg m x v 55 hop 37 3 keyed37 Try.underlying55 (plainElem Try.prog 3) b n D hm h1 hn _ _ (keyL i) hx hv (key_id i) _ [] (plainElem_int Try.underlying3 hz) ?_
  intro w' h4 h5
  refine hK w' ⟨_, h4, h2.put _ _, fun j => ?_⟩ h5
  unfold upd
  by_cases hj : j = i
  · subst hj
    rw [if_pos rfl]
    exact atKey_put_same h2 (keyed37.key (key_id j)) _ _
  · rw [if_neg hj, atKey_put_other (fun e => hj (keyL_inj e))]
    exact h3 j
end
end Go.Proofs.Ytbcejdmgdgghfaa
