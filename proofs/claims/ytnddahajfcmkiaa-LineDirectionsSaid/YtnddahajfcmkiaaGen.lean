/- Plain memory lemmas, the second part: appends, variables, blocks, searches. Conditions: none. -/
import Derived.Test.YtnddahajfcmkiaaFill
import Derived.Test.YtnddahajfcmkiaaSeq
import Derived.OwnWalk
namespace Go.Proofs.Ytnddahajfcmkiaa
set_option linter.unusedSimpArgs false
set_option linter.unusedVariables false
set_option linter.unnecessarySimpa false
open Go.RowKit

theorem bnew (w : World) (o : Obj) : Below w.heap.size w (w.alloc o) := (Below.refl _ _).alloc (Nat.le_refl _) _
theorem ret_int {k : IntKind} {a b : Int} (h : a = b) : Ending.returned (.int k a) = .returned (.int k b) := by rw [h]
theorem below_kept {w w' : World} {base e size n : Nat} {v : Value} {xs : List Value} (h : w.ownsRow base e size v n xs) (hb : Below w.heap.size w w') : w'.ownsRow base e size v n xs :=
  h.kept (hb.grownBy none) (by cases hv : v.ownBlock <;> simp)
theorem flatMap_set {α : Type} {f : α → List Value} {size : Nat} (hf : ∀ x, (f x).length = size) : ∀ (l : List α) (k : Nat) (hk : k < l.length) (j : Nat) (u : Value) (y : α), j < size → f y = (f l[k]).set j u → (l.flatMap f).set (k * size + j) u = (l.set k y).flatMap f
  | x :: l, 0, hk, j, u, y, hj, h => by
    simp only [List.getElem_cons_zero] at h
    simp only [List.flatMap_cons, Nat.zero_mul, Nat.zero_add, List.set_cons_zero]
    rw [List.set_append_left _ _ (by rw [hf]; exact hj), h]
  | x :: l, k + 1, hk, j, u, y, hj, h => by
    simp only [List.getElem_cons_succ] at h
    simp only [List.flatMap_cons, List.set_cons_succ]
    rw [List.set_append_right _ _ (by rw [hf, Nat.add_mul]; omega), hf, ← flatMap_set hf l k (by simpa using hk) j u y hj h]
    congr 2
    rw [Nat.add_mul]
    omega
theorem wpList_run {P : Program} {ops : Array Oper} {Q : Exit → Act → World → Prop} {rest : List Oper} {a : Act} {w : World} {o : Oper} (hgd : o.guard = none) (v : Value) (h : (execOp a.eval o).run P w = .ok (.value v) w)
    (k : wpList P ops Q rest (a.put o.dst v) w) : wpList P ops Q (o :: rest) a w :=
  wpList_plain hgd fun K hK => by unfold Oper.wp; rw [h]; exact hK _ _ k
theorem Rd.cutTo {w : World} {g size n m : Nat} {A : Option Addr} {xs : List Value} (h : Rd w g size A n xs) (hm : m ≤ n) : Rd w g size A m (xs.take (m * size)) := by
  refine ⟨by rw [List.length_take, h.1]; exact Nat.min_eq_left (Nat.mul_le_mul_right _ hm), fun hp => ?_⟩
  obtain ⟨hg, off, e, hc⟩ := h.2 (by omega)
  refine ⟨hg, off, e, fun j u hu => hc j u ?_⟩
  rw [List.getElem?_take] at hu
  split at hu
  · exact hu
  · cases hu
theorem Rd.cutFrom {w : World} {g size n m c : Nat} {A : Option Addr} {xs : List Value} (h : Rd w g size A n xs) (hm : m ≤ n) (hc : n ≤ c) : Rd w g size (if c = m then A else A.map (·.add (m * size))) (n - m) (xs.drop (m * size)) := by
  refine ⟨by rw [List.length_drop, h.1, Nat.sub_mul], fun hp => ?_⟩
  obtain ⟨hg, off, rfl, hcc⟩ := h.2 (by omega)
  rw [if_neg (by omega)]
  refine ⟨hg, off + m * size, by simp [Addr.add_lit], fun j u hu => ?_⟩
  rw [Nat.add_assoc]
  exact hcc _ u (by rw [← hu, List.getElem?_drop])
theorem flatMap_take {α : Type} {f : α → List Value} {size : Nat} (hf : ∀ x, (f x).length = size) : ∀ (l : List α) (m : Nat), (l.flatMap f).take (m * size) = (l.take m).flatMap f
  | [], m => by simp
  | x :: l, 0 => by simp
  | x :: l, m + 1 => by
    simp only [List.flatMap_cons, List.take_succ_cons]
    rw [List.take_append, List.take_of_length_le (by rw [hf, Nat.add_mul]; omega), hf, ← flatMap_take hf l m]
    congr 2
    rw [Nat.add_mul]; omega
theorem flatMap_drop {α : Type} {f : α → List Value} {size : Nat} (hf : ∀ x, (f x).length = size) : ∀ (l : List α) (m : Nat), (l.flatMap f).drop (m * size) = (l.drop m).flatMap f
  | [], m => by simp
  | x :: l, 0 => by simp
  | x :: l, m + 1 => by
    simp only [List.flatMap_cons, List.drop_succ_cons]
    rw [List.drop_append, List.drop_of_length_le (by rw [hf, Nat.add_mul]; omega), hf, ← flatMap_drop hf l m]
    simp only [List.nil_append]
    congr 1
    rw [Nat.add_mul]; omega
theorem own_slice {w : World} {base e size n : Nat} {v : Value} {xs : List Value} (h : w.ownsRow base e size v n xs) : ∃ A c, v = .slice A n c := by
  rcases h.2 with ⟨rfl, rfl⟩ | ⟨g, cap, cur, rfl, _⟩
  · exact ⟨_, _, rfl⟩
  · exact ⟨_, _, rfl⟩
theorem wp_box {P : Program} {Q : Exit → Act → World → Prop} {a : Act} {w : World} {o : Oper} {K : Act → World → Prop} (ty : TypeId) (x : Operand) (ho : o.op = .box ty x) (cs : Array Value) (hx : a.eval x = .agg cs)
    (h : K (a.put o.dst (.pointer (some ⟨w.heap.size, 0, none⟩))) (w.alloc (.cells cs ty))) : o.wp P a w K Q := by
  unfold Oper.wp execOp
  simp only [ho, hx, Instr.box, Sem.run_bind, Result.andThen_ok, newVar, newRow, Sem.run_pure, newObj, Sem.run, Value.cells]
  exact h
theorem wp_run {P : Program} {Q : Exit → Act → World → Prop} {a : Act} {w : World} {o : Oper} {K : Act → World → Prop} {v : Value} (h : (execOp a.eval o).run P w = .ok (.value v) w) (k : K (a.put o.dst v) w) : o.wp P a w K Q := by
  unfold Oper.wp
  rw [h]
  exact k
theorem grown_undrew {w w' : World} {row : Option Nat} (h : w.drew.grownBy w' row) : w.grownBy w' row := ⟨h.os, h.tape, h.output, h.size, h.block⟩
theorem own_grown {w w' : World} {base e size n b : Nat} {v : Value} {xs : List Value} (h : w.ownsRow base e size v n xs) (hg : w.grownBy w' (some b)) (hb : b < base) : w'.ownsRow base e size v n xs :=
  h.kept hg (by
    cases hv : v.ownBlock with
    | none => exact .inl rfl
    | some x => exact .inr fun e => by have := (h.lt x hv).1; injection e with e; omega)
theorem wpList_wanted {P : Program} {ops : Array Oper} {Q : Exit → Act → World → Prop} {rest : List Oper} {a : Act} {w : World} {o : Oper} (hw : Region.wanted o (yielded ops a.tmps) = true) (h : ∀ K : Act → World → Prop, (∀ a w, wpList P ops Q rest a w → K a w) → o.wp P a w K Q) : wpList P ops Q (o :: rest) a w :=
  wpList_step fun K hK => by rw [if_pos hw]; exact h K hK
theorem run_append_nil0 {P : Program} (w : World) (t ty e : TypeId) (i : TypeInfo) (ht : P.underlying t = some (.slice e)) (hi : P.info? e = some i) (g c : Nat) : (Builtin.append_ #[t, t] ty #[.slice (some ⟨g, 0, none⟩) 0 0, .slice none 0 c]).run P w = .ok (.slice (some ⟨g, 0, none⟩) 0 0) w := by
  simp [Builtin.append_, run_underlying ht, sizeOf, typeInfo, hi, Builtin.lenOf, Builtin.firstCells, storeCells]
/-- a literal of no elements, a slice that reads as a list appended to it: nothing that was there turns -/
theorem run_append_zero {P : Program} (w : World) (base : Nat) (t ty e : TypeId) (i : TypeInfo) (z : Value) (size bytes : Nat) (ht : P.underlying t = some (.slice e)) (hi : P.info? e = some i) (hz : i.zero = some z)
    (hsize : i.size = size) (hby : i.bytes = bytes) (hzs : z.cells.size = size) (hsz : 0 < size)
    (g0 : Nat) (hown : w.ownsRow base e size (.slice (some ⟨g0, 0, none⟩) 0 0) 0 []) (g : Nat) (A : Option Addr) (m c : Nat) (news : List Value) (hr : Rd w g size A m news)
    (h63 : m ≤ maxLen) (hbytes : m * bytes ≤ 140737488355328) (hbase : base ≤ w.heap.size) :
    ∃ v' w', (Builtin.append_ #[t, t] ty #[.slice (some ⟨g0, 0, none⟩) 0 0, .slice A m c]).run P w = .ok v' w' ∧ w'.ownsRow base e size v' m news ∧ Below w.heap.size w w' := by
  subst hsize
  subst hby
  rcases Nat.eq_zero_or_pos m with h0 | hp
  · subst h0
    have hn : news = [] := List.eq_nil_of_length_eq_zero (by simpa using hr.1)
    subst hn
    cases A with
    | none => exact ⟨_, w, run_append_nil0 w t ty e i ht hi g0 c, hown, Below.refl _ _⟩
    | some ad =>
      refine ⟨.slice (some ⟨g0, 0, none⟩) 0 0, w, ?_, hown, Below.refl _ _⟩
      simp [Builtin.append_, run_underlying ht, sizeOf, typeInfo, hi, Builtin.lenOf, Builtin.firstCells, storeCells, loadCells, loadCellsFrom]
  · obtain ⟨hg, off, rfl, hc⟩ := hr.2 hp
    have hsmall : m ≤ 9223372036854775807 := by simp only [maxLen] at h63; omega
    have hrun := run_append_grow (P := P) w t ty e i z ht hi hz ⟨g0, 0, none⟩ 0 0 [] (by simp) (by simp) ⟨g, off, none⟩ m c news hr.1 (fun j u hu => by rw [Addr.add_lit]; exact hc j u hu) (by omega) (by omega) (growslice_fits (by omega) (by rw [Nat.zero_add]; exact hbytes))
    simp only [Nat.zero_add] at hrun
    refine ⟨_, _, hrun, ⟨hr.1, .inr ⟨w.heap.size, _, _, rfl, hbase, heap_alloc_new w.drew _, ?_, ?_, ?_, ?_⟩⟩, ⟨rfl, rfl, rfl, by simp, fun k hk => heap_alloc_old w.drew _ hk⟩⟩
    · exact grownCap_ge w m 0 e
    · exact grownCap_le_maxLen w m 0 e (by omega)
    · have hge := grownCap_ge w m 0 e
      simp only [Array.size_append, List.size_toArray, size_zeroCells, hzs, List.length_nil, Nat.zero_add, hr.1, ← Nat.add_mul] at hge ⊢
      congr 1
      omega
    · simp only [Array.toList_append, List.append_assoc, List.nil_append]
      rw [← hr.1]
      exact List.take_left
theorem wp_app_zero {P : Program} {o : Oper} {a : Act} {w : World} {K : Act → World → Prop} {Q : Exit → Act → World → Prop} (s x : Operand) (t : TypeId) (ho : o.op = .call { callee := .builtin .append, args := #[s, x], argTypes := #[t, t] })
    (base : Nat) (e : TypeId) (i : TypeInfo) (z : Value) (size bytes : Nat) (ht : P.underlying t = some (.slice e)) (hi : P.info? e = some i) (hz : i.zero = some z) (hsize : i.size = size) (hby : i.bytes = bytes) (hzs : z.cells.size = size) (hsz : 0 < size)
    (g0 : Nat) (hs : a.eval s = .slice (some ⟨g0, 0, none⟩) 0 0) (hown : w.ownsRow base e size (.slice (some ⟨g0, 0, none⟩) 0 0) 0 []) (g : Nat) (A : Option Addr) (m c : Nat) (news : List Value) (hx : a.eval x = .slice A m c) (hr : Rd w g size A m news)
    (h63 : m ≤ maxLen) (hbytes : m * bytes ≤ 140737488355328) (hbase : base ≤ w.heap.size)
    (h : ∀ v' w', w'.ownsRow base e size v' m news → Below w.heap.size w w' → K (a.put o.dst v') w') : o.wp P a w K Q := by
  obtain ⟨v', w', hrun, h2, h3⟩ := run_append_zero (P := P) w base t o.type e i z size bytes ht hi hz hsize hby hzs hsz g0 hown g A m c news hr h63 hbytes hbase
  unfold Oper.wp execOp
  simp only [ho, resolve, invoke, builtin, Sem.run_bind, Sem.run_pure, Result.andThen_ok, List.map_toArray, List.map_cons, List.map_nil, hs, hx, hrun]
  exact h v' w' h2 h3
theorem wp_alloc_blk {P : Program} {o : Oper} {a : Act} {w : World} {K : Act → World → Prop} {Q : Exit → Act → World → Prop} (ty : TypeId) (ho : o.op = .alloc ty) (z : Value) (cs : List Value) (hzc : z.cells = cs.toArray) (hz : (P.info? ty).map (fun i => i.zero) = some (some z))
    (h : ∀ w', Blk w' w.heap.size ty cs.toArray → Below w.heap.size w w' → K (a.put o.dst (.pointer (some ⟨w.heap.size, 0, none⟩))) w') : o.wp P a w K Q := by
  have hzv : (zeroValue ty).run P w = .ok z w := by
    cases hq : P.info? ty with
    | none => simp [hq] at hz
    | some i => simp [hq] at hz; simp [zeroValue, typeInfo, hq, hz]
  unfold Oper.wp execOp
  simp only [ho, Instr.alloc, Sem.run_bind, hzv, Result.andThen_ok, newVar, newRow, Sem.run_pure, newObj, Sem.run]
  exact h _ (by rw [← hzc]; exact Blk.new _ _ _) (bnew w (.cells z.cells ty))
theorem own_slice' {w : World} {base e size n : Nat} {v : Value} {xs : List Value} (h : w.ownsRow base e size v n xs) : ∃ A n c, v = .slice A n c := by
  rcases h.2 with ⟨rfl, rfl⟩ | ⟨g, cap, cur, rfl, _⟩
  · exact ⟨_, _, _, rfl⟩
  · exact ⟨_, _, _, rfl⟩
theorem Blk.ne_ {w : World} {g g' : Nat} {t t' : TypeId} {cs cs' : Array Value} (h : Blk w g t cs) (h' : Blk w g' t' cs') (hne : t ≠ t') : g ≠ g' := by
  rintro rfl
  unfold Blk at h h'
  rw [h] at h'
  injection h' with h'
  injection h' with _ ht
  exact hne ht
theorem own_blk_ne {w : World} {g : Nat} {t : TypeId} {cs : Array Value} {base : Nat} {e : TypeId} {size n : Nat} {v : Value} {xs : List Value} (h : w.ownsRow base e size v n xs) (hg : Blk w g t cs) (hne : e ≠ t) : v.ownBlock ≠ some g := by
  rcases h.2 with ⟨rfl, _⟩ | ⟨g', cap, cur, rfl, _, hh, _⟩
  · simp [Value.ownBlock]
  · intro he
    have : g' = g := by simpa [Value.ownBlock] using he
    subst this
    exact Blk.ne_ (t := e) hh hg hne rfl
theorem fill_part (place : Nat → Option (Nat × Nat)) : ∀ (vs : List Value) (s off : Nat) (done rest : List Value), Places place s off vs → done.length = off → (flatc vs).length ≤ rest.length →
    Instr.fill place (done ++ rest).toArray (numbered s vs) = some (done ++ flatc vs ++ rest.drop (flatc vs).length).toArray
  | [], s, off, done, rest, _, _, h => by simp [numbered, Instr.fill, flatc]
  | v :: vs, s, off, done, rest, ⟨hp, hps⟩, hd, h => by
    have hfl : (flatc (v :: vs)).length = v.cells.size + (flatc vs).length := by simp [flatc]
    rw [numbered, Instr.fill, hp]
    simp only
    have hle : ¬ (off + v.cells.size > (done ++ rest).toArray.size) := by simp; omega
    rw [if_neg (by simpa using hle)]
    have e := foldl_set off v.cells.toList 0 done rest (by omega) (by simp; omega)
    have e' : v.cells.zipIdx.foldl (fun (cs : Array Value) (x : Value × Nat) => match x with | (c, j) => cs.setIfInBounds (off + j) c) (done ++ rest).toArray = ((done ++ v.cells.toList) ++ rest.drop v.cells.toList.length).toArray := by
      rw [← e, ← Array.foldl_toList, Array.toList_zipIdx]
    rw [e']
    rw [fill_part place vs (s + 1) (off + v.cells.size) (done ++ v.cells.toList) _ hps (by simp; omega) (by simp; omega)]
    simp [flatc, List.drop_drop]
theorem wp_store_blk {P : Program} {Q : Exit → Act → World → Prop} {a : Act} {w : World} {K : Act → World → Prop} {o : Oper} (ty : TypeId) (px x : Operand) (ho : o.op = .store ty px x) (g off : Nat) (e : TypeId) (c vs : List Value) (hb : Blk w g e c.toArray) (hp : a.eval px = .pointer (some ⟨g, off, none⟩)) (hx : a.eval x = .agg vs.toArray)
    (hi : (P.info? ty).map (·.size) = some vs.length) (hfit : off + vs.length ≤ c.length) (h1 : ∀ u ∈ vs, u.oneCell' = true)
    (h : ∀ w', Blk w' g e (c.take off ++ vs ++ c.drop (off + vs.length)).toArray → w.grownBy w' (some g) → w'.heap.size = w.heap.size → K (a.put o.dst undef) w') : o.wp P a w K Q := by
  have hst := run_storeCells_at P g off e vs 0 c.toArray w hb (by simpa using hfit) h1
  have hsv : (storeVar ty ⟨g, off, none⟩ (.agg vs.toArray)).run P w = .ok () (w.setRow g (c.take off ++ vs ++ c.drop (off + vs.length)).toArray) := by
    cases hq : P.info? ty with
    | none => simp [hq] at hi
    | some i =>
      have hs : i.size = vs.length := by simpa [hq] using hi
      simp [storeVar, sizeOf, typeInfo, hq, Value.cells, hs, hst]
  unfold Oper.wp execOp
  simp only [ho, hp, hx, Instr.storeAt, Instr.sureAddr, Sem.run_bind, Sem.run_pure, Result.andThen_ok, hsv]
  refine h _ ?_ ⟨rfl, rfl, rfl, by simp, fun k _ hk => setRow_other w g k _ (fun e => hk (by simp [e]))⟩ (by simp)
  exact setRow_heap w g c.toArray _ e _ hb
theorem rv_size {B : Nat} {T : TypeId} {F : Array Value → Prop} {w w' : World} (h : Rv B T F w w') (hB : B ≤ w.heap.size) : w.heap.size ≤ w'.heap.size := (h hB).2.2.2.1
theorem rv_below {w w' : World} {T : TypeId} {F : Array Value → Prop} (h : Rv w.heap.size T F w.drew w') : Below w.heap.size w w' := below_undrew (h.below (Nat.le_refl _))
theorem list_of {α : Type} {f : α → List Value} {q : List Value → Prop} (hq : ∀ x, q x → ∃ a, x = f a) : ∀ (es : List (List Value)), (∀ x ∈ es, q x) → ∃ l : List α, es = l.map f
  | [], _ => ⟨[], rfl⟩
  | x :: es, h => by
    obtain ⟨a, rfl⟩ := hq x (h x (by simp))
    obtain ⟨l, rfl⟩ := list_of hq es fun y hy => h y (by simp [hy])
    exact ⟨a :: l, rfl⟩
theorem rd_of_cells {α : Type} {f : α → List Value} {size : Nat} (hf : ∀ x, (f x).length = size) (hs : 0 < size) {w : World} {g : Nat} {A : Option Addr} {l : List α} (h : 0 < l.length → ∃ off, A = some ⟨g, off, none⟩ ∧ ∀ i x, (l.map f)[i]? = some x → ∀ j u, x[j]? = some u → w.cell? ⟨g, off + i * size + j, none⟩ = some u) : Rd w g size A l.length (l.flatMap f) := by
  refine ⟨length_flatMap_const hf l, fun hp => ?_⟩
  obtain ⟨off, hA, hc⟩ := h hp
  have hlt : g < w.heap.size := by
    have h0 : (f l[0]).length = size := hf _
    exact World.block_lt_of_cell? _ _ (hc 0 (f l[0]) (by simp [List.getElem?_eq_getElem hp]) 0 (f l[0])[0] (List.getElem?_eq_getElem (by omega)))
  refine ⟨hlt, off, hA, fun j u hu => ?_⟩
  have hj : j < l.length * size := by
    have := (List.getElem?_eq_some_iff.1 hu).1
    rwa [length_flatMap_const hf l] at this
  have hk : j / size < l.length := (Nat.div_lt_iff_lt_mul hs).2 hj
  have hm : j % size < size := Nat.mod_lt _ hs
  have e : j / size * size + j % size = j := by rw [Nat.mul_comm]; exact Nat.div_add_mod j size
  rw [← e, getElem?_flatMap hf l (j / size) hk (j % size) hm] at hu
  have := hc (j / size) (f l[j / size]) (by simp [List.getElem?_eq_getElem hk]) (j % size) u hu
  rwa [Nat.add_assoc, e] at this
def idxI {α : Type} (p : α → Bool) : List α → Int → Int
  | [], _ => -1
  | x :: l, k => if p x then k else idxI p l (k + 1)
theorem idxI_spec {α : Type} (p : α → Bool) : ∀ (l : List α) (s : Int), (idxI p l s = -1 ∧ l.find? p = none) ∨ ∃ k, ∃ (hk : k < l.length), idxI p l s = s + k ∧ p l[k] = true ∧ l.find? p = some l[k] ∧ l.findIdx p = k
  | [], s => .inl ⟨rfl, rfl⟩
  | x :: l, s => by
    cases h : p x
    · rcases idxI_spec p l (s + 1) with ⟨h1, h2⟩ | ⟨k, hk, h1, h2, h3, h4⟩
      · exact .inl ⟨by simp [idxI, h, h1], by simp [h, h2]⟩
      · refine .inr ⟨k + 1, by simpa using hk, ?_, by simpa using h2, by simp [h, h3], by simp [List.findIdx_cons, h, h4]⟩
        simp only [idxI, h, Bool.false_eq_true, if_false, h1]; omega
    · exact .inr ⟨0, by simp, by simp [idxI, h], by simpa using h, by simp [h], by simp [List.findIdx_cons, h]⟩
/-- the relation of a region in which one window is worked on -/
def Rw (b : Nat) (w w' : World) : Prop := w.grownBy w' (some b)
theorem Rw.refl (b : Nat) (w : World) : Rw b w w := World.grownBy.refl _ _
theorem Rw.trans (b : Nat) (x y z : World) (h : Rw b x y) (k : Rw b y z) : Rw b x z := World.grownBy.trans' h k
end Go.Proofs.Ytnddahajfcmkiaa
