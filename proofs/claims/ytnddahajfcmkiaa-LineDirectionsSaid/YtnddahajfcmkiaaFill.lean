/- Struct and slice literals, appended elements, variables that are laid and stored whole: one law an operation. Conditions: none. -/
import Derived.Test.YtnddahajfcmkiaaMem
namespace Go.Proofs.Ytnddahajfcmkiaa
set_option linter.unusedSimpArgs false
set_option linter.unusedVariables false
set_option linter.unnecessarySimpa false
open Go.RowKit

theorem foldl_set (off : Nat) : ∀ (vs : List Value) (s : Nat) (done rest : List Value), done.length = off + s → vs.length ≤ rest.length →
    (vs.zipIdx s).foldl (fun (cs : Array Value) (x : Value × Nat) => cs.setIfInBounds (off + x.2) x.1) (done ++ rest).toArray = (done ++ vs ++ rest.drop vs.length).toArray
  | [], s, done, rest, _, _ => by simp
  | v :: vs, s, done, [], _, h => by simp at h
  | v :: vs, s, done, r :: rest, hd, h => by
    rw [List.zipIdx_cons, List.foldl_cons]
    have e : (done ++ r :: rest).toArray.setIfInBounds (off + s) v = ((done ++ [v]) ++ rest).toArray := by
      rw [List.setIfInBounds_toArray, List.set_append_right _ _ (by omega)]
      rw [show off + s - done.length = 0 by omega]
      simp
    show (vs.zipIdx (s + 1)).foldl _ ((done ++ r :: rest).toArray.setIfInBounds (off + s) v) = _
    rw [e, foldl_set off vs (s + 1) (done ++ [v]) rest (by simp; omega) (by simpa using h)]
    simp

def Places (place : Nat → Option (Nat × Nat)) : Nat → Nat → List Value → Prop
  | _, _, [] => True
  | s, off, v :: vs => place s = some (off, v.cells.size) ∧ Places place (s + 1) (off + v.cells.size) vs
def numbered : Nat → List Value → List (Nat × Value)
  | _, [] => []
  | s, v :: vs => (s, v) :: numbered (s + 1) vs
def flatc (vs : List Value) : List Value := vs.flatMap fun v => v.cells.toList

theorem fill_seq (place : Nat → Option (Nat × Nat)) : ∀ (vs : List Value) (s off : Nat) (done rest : List Value), Places place s off vs → done.length = off → rest.length = (flatc vs).length →
    Instr.fill place (done ++ rest).toArray (numbered s vs) = some (done ++ flatc vs).toArray
  | [], s, off, done, rest, _, _, h => by
    have : rest = [] := List.eq_nil_of_length_eq_zero (by simpa [flatc] using h)
    simp [numbered, Instr.fill, flatc, this]
  | v :: vs, s, off, done, rest, ⟨hp, hps⟩, hd, h => by
    have hfl : (flatc (v :: vs)).length = v.cells.size + (flatc vs).length := by simp [flatc]
    rw [numbered, Instr.fill, hp]
    simp only
    have hle : ¬ (off + v.cells.size > (done ++ rest).toArray.size) := by simp; omega
    rw [if_neg (by simpa using hle)]
    have e := foldl_set off v.cells.toList 0 done rest (by omega) (by simp; omega)
    have e' : v.cells.zipIdx.foldl (fun (cs : Array Value) (x : Value × Nat) => match x with | (c, j) => cs.setIfInBounds (off + j) c) (done ++ rest).toArray = ((done ++ v.cells.toList) ++ rest.drop v.cells.toList.length).toArray := by
      rw [← e, ← Array.foldl_toList, Array.toList_zipIdx]
    rw [e']
    rw [fill_seq place vs (s + 1) (off + v.cells.size) (done ++ v.cells.toList) _ hps (by simp; omega) (by simp; omega)]
    simp [flatc]

section
variable {P : Program} (w : World)

theorem run_buildSlice_all (t e : TypeId) (i : TypeInfo) (z : Value) (size : Nat) (ht : P.underlying t = some (.slice e)) (hi : P.info? e = some i) (hz : i.zero = some z) (hsize : i.size = size)
    (vs : List Value) (hvs : ∀ v ∈ vs, v.cells.size = size) (hsmall : vs.length * size ≤ 16777216) :
    (Instr.buildSlice t vs.length (numbered 0 vs).toArray).run P w = .ok (.slice (some ⟨w.heap.size, 0, none⟩) vs.length vs.length) (w.alloc (.cells (flatc vs).toArray e)) := by
  subst hsize
  have hpl : ∀ (vs : List Value) (s : Nat), (∀ v ∈ vs, v.cells.size = i.size) → Places (fun j => some (j * i.size, i.size)) s (s * i.size) vs := by
    intro vs
    induction vs with
    | nil => intro s _; trivial
    | cons v vs ih =>
      intro s h
      refine ⟨by rw [h v (by simp)], ?_⟩
      rw [h v (by simp)]
      have := ih (s + 1) (fun u hu => h u (by simp [hu]))
      rwa [Nat.add_mul, Nat.one_mul] at this
  have hlen : ∀ (vs : List Value), (∀ v ∈ vs, v.cells.size = i.size) → (flatc vs).length = vs.length * i.size := by
    intro vs
    induction vs with
    | nil => intro _; simp [flatc]
    | cons v vs ih =>
      intro h
      have h1 := ih (fun u hu => h u (by simp [hu]))
      have h2 := h v (by simp)
      simp only [flatc, List.flatMap_cons, List.length_append, Array.length_toList, h2, List.length_cons, Nat.add_mul] at h1 ⊢
      omega
  have hfill : ∀ zs : Array Value, zs.size = vs.length * i.size → Instr.fill (fun j => some (j * i.size, i.size)) zs (numbered 0 vs) = some (flatc vs).toArray := by
    intro zs hzs
    have := fill_seq (fun j => some (j * i.size, i.size)) vs 0 0 [] zs.toList (by simpa using hpl vs 0 hvs) rfl (by rw [hlen vs hvs]; simpa using hzs)
    simpa using this
  have hs' : ¬ (vs.length * i.size > 2 ^ 24) := by omega
  have ht' := run_underlying ht w
  have hi' : (sizeOf e).run P w = .ok i.size w := by simp [sizeOf, typeInfo, hi]
  unfold Instr.buildSlice
  simp only [Sem.run_bind, ht', Result.andThen_ok, hi', hs', if_false, Sem.run_pure]
  by_cases h0 : vs.length * i.size = 0
  · simp only [h0, if_true, Sem.run_bind, Sem.run_pure, Result.andThen_ok]
    rw [hfill _ (by simp [h0])]
    simp [newRow]
  · have hz' : (zeroValue e).run P w = .ok z w := by simp [zeroValue, typeInfo, hi, hz]
    simp only [h0, if_false, Sem.run_bind, hz', Result.andThen_ok, Sem.run_pure]
    rw [hfill _ (by simp)]
    simp [newRow]

theorem run_build_all (t : TypeId) (i : TypeInfo) (z : Value) (ht : P.underlying t = some (.struct (P.fieldsOf t))) (hi : P.info? t = some i) (hz : i.zero = some z)
    (pl : Array (Nat × Nat)) (hpl : ((P.fieldsOf t).mapM (m := Sem) fun (f : Field) => do pure (f.offset, ← sizeOf f.type)).run P w = .ok pl w)
    (vs : List Value) (hp : Places (pl[·]?) 0 0 vs) (hl : z.cells.size = (flatc vs).length) :
    (Instr.build t (numbered 0 vs).toArray).run P w = .ok (.agg (flatc vs).toArray) w := by
  have hz' : (zeroValue t).run P w = .ok z w := by simp [zeroValue, typeInfo, hi, hz]
  have hf := fill_seq (pl[·]?) vs 0 0 [] z.cells.toList hp rfl (by simpa using hl)
  simp only [List.nil_append, Array.toArray_toList] at hf
  unfold Instr.build
  simp only [Sem.run_bind, hz', Result.andThen_ok, Sem.run_pure, run_underlying ht w, hpl, hf]

end

section
variable {P : Program} {ops : Array Oper} {Q : Exit → Act → World → Prop} {rest : List Oper} {a : Act} {w : World}

/-- a variable of a struct type is laid, and the struct stored whole -/
theorem wpList_var {d : Tmp} {x : Operand} {t1 t2 : TypeId} {p1 p2 : String} {af1 af2 : Array Edge} (ty : TypeId) (cs : List Value) (d' : TypeDesc) (hu : P.underlying ty = some d')
    (z : Value) (hz : (P.info? ty).map (fun i => (i.zero, i.size)) = some (some z, cs.length)) (hzc : z.cells.size = cs.length) (h1 : ∀ u ∈ cs, u.oneCell' = true)
    (hd : d < a.tmps.size) (hx : (a.put (some d) (.pointer (some ⟨w.heap.size, 0, none⟩))).eval x = .agg cs.toArray)
    (h : wpList P ops Q rest (a.put (some d) (.pointer (some ⟨w.heap.size, 0, none⟩))) (w.alloc (.cells cs.toArray ty))) :
    wpList P ops Q (⟨some d, .alloc ty, t1, p1, af1, none⟩ :: ⟨none, .store ty (.tmp d) x, t2, p2, af2, none⟩ :: rest) a w := by
  obtain ⟨hzv, hsz⟩ := zero_of_info hz
  refine wpList_plain rfl fun K hK => ?_
  unfold Oper.wp execOp
  simp only [Instr.alloc, Sem.run_bind, hzv, Result.andThen_ok, newVar, newRow, Sem.run_pure, newObj, Sem.run]
  refine hK _ _ (wpList_plain rfl fun K' hK' => ?_)
  have hst := run_storeAt_new (P := P) w ty z.cells cs.toArray (by simpa using hsz) (by simpa using hzc) (by simpa using h1)
  have hp : (a.put (some d) (.pointer (some ⟨w.heap.size, 0, none⟩))).eval (.tmp d) = .pointer (some ⟨w.heap.size, 0, none⟩) := by
    simp [Act.put, Act.eval, hd]
  unfold Oper.wp execOp
  simp only [hp, hx, Sem.run_bind]
  rw [show (w.alloc (.cells z.cells ty)) = { w with heap := w.heap.push (.cells z.cells ty) } from rfl] at hst
  simp only [hst, Result.andThen_ok, Sem.run_pure]
  exact hK' _ _ h

theorem wpList_buildSlice {o : Oper} (hgd : o.guard = none) (t : TypeId) (n : Nat) (parts : Array (Nat × Operand)) (ho : o.op = .buildSlice t n parts) (e : TypeId) (i : TypeInfo) (z : Value) (size : Nat)
    (ht : P.underlying t = some (.slice e)) (hi : P.info? e = some i) (hz : i.zero = some z) (hsize : i.size = size) (vs : List Value) (hn : n = vs.length) (hparts : (parts.map fun (j, x) => (j, a.eval x)) = (numbered 0 vs).toArray)
    (hvs : ∀ v ∈ vs, v.cells.size = size) (hsmall : vs.length * size ≤ 16777216)
    (h : wpList P ops Q rest (a.put o.dst (.slice (some ⟨w.heap.size, 0, none⟩) vs.length vs.length)) (w.alloc (.cells (flatc vs).toArray e))) : wpList P ops Q (o :: rest) a w := by
  refine wpList_plain hgd fun K hK => ?_
  subst hn
  unfold Oper.wp execOp
  simp only [ho, hparts, Sem.run_bind, run_buildSlice_all w t e i z size ht hi hz hsize vs hvs hsmall, Result.andThen_ok, Sem.run_pure]
  exact hK _ _ h

theorem wpList_build {o : Oper} (hgd : o.guard = none) (t : TypeId) (parts : Array (Nat × Operand)) (ho : o.op = .build t parts) (i : TypeInfo) (z : Value) (ht : P.underlying t = some (.struct (P.fieldsOf t))) (hi : P.info? t = some i) (hz : i.zero = some z)
    (pl : Array (Nat × Nat)) (hpl : ∀ w, ((P.fieldsOf t).mapM (m := Sem) fun (f : Field) => do pure (f.offset, ← sizeOf f.type)).run P w = .ok pl w)
    (vs : List Value) (hparts : (parts.map fun (j, x) => (j, a.eval x)) = (numbered 0 vs).toArray) (hp : Places (pl[·]?) 0 0 vs) (hl : z.cells.size = (flatc vs).length)
    (h : wpList P ops Q rest (a.put o.dst (.agg (flatc vs).toArray)) w) : wpList P ops Q (o :: rest) a w := by
  refine wpList_plain hgd fun K hK => ?_
  unfold Oper.wp execOp
  simp only [ho, hparts, Sem.run_bind, run_build_all w t i z ht hi hz pl (hpl w) vs hp hl, Result.andThen_ok, Sem.run_pure]
  exact hK _ _ h

theorem flatc_one (v : Value) : flatc [v] = v.cells.toList := by simp [flatc]

/-- 's = append(s, x)', x one element: the literal of one element, then the append -/
theorem wpList_push {d1 d2 : Tmp} {x s : Operand} {t1 t2 : TypeId} {p1 p2 : String} {af1 af2 : Array Edge} (t : TypeId)
    (base : Nat) (e : TypeId) (i : TypeInfo) (z : Value) (size bytes : Nat) (ht : P.underlying t = some (.slice e)) (hi : P.info? e = some i) (hz : i.zero = some z)
    (hsize : i.size = size) (hby : i.bytes = bytes) (hzs : z.cells.size = size) (hsz : 0 < size) (hsm : size ≤ 16777216)
    (v : Value) (cs : List Value) (hx : a.eval x = v) (hv : v.cells.toList = cs) (hcl : cs.length = size) (h1 : ∀ u ∈ cs, u.oneCell' = true)
    (sv : Value) (n : Nat) (xs : List Value) (hs : (a.put (some d1) (.slice (some ⟨w.heap.size, 0, none⟩) 1 1)).eval s = sv) (hd : d1 < a.tmps.size) (hown : w.ownsRow base e size sv n xs)
    (h63 : n + 1 ≤ maxLen) (hbytes : (n + 1) * bytes ≤ 140737488355328) (hbase : base ≤ w.heap.size)
    (h : ∀ v' w', w'.ownsRow base e size v' (n + 1) (xs ++ cs) → w.grownBy w' sv.ownBlock → (v'.ownBlock = sv.ownBlock ∨ v'.ownBlock = some (w.heap.size + 1)) → wpList P ops Q rest ((a.put (some d1) (.slice (some ⟨w.heap.size, 0, none⟩) 1 1)).put (some d2) v') w') :
    wpList P ops Q (⟨some d1, .buildSlice t 1 #[(0, x)], t1, p1, af1, none⟩ :: ⟨some d2, .call { callee := .builtin .append, args := #[s, .tmp d1], argTypes := #[t, t] }, t2, p2, af2, none⟩ :: rest) a w := by
  have hvc : v.cells.size = size := by rw [← hcl, ← hv, Array.length_toList]
  refine wpList_buildSlice rfl t 1 _ rfl e i z size ht hi hz hsize [v] rfl (by simp [numbered, hx]) (by simpa using hvc) (by simpa using hsm) ?_
  rw [flatc_one, hv]
  have hA : (a.put (some d1) (.slice (some ⟨w.heap.size, 0, none⟩) 1 1)).eval (.tmp d1) = .slice (some ⟨w.heap.size, 0, none⟩) 1 1 := by
    simp [Act.put, Act.eval, hd]
  refine wpList_append_own_at (w.alloc (.cells cs.toArray e)) rfl s (.tmp d1) t rfl base e i z size bytes ht hi hz hsize hby hzs hsz sv n xs hs (hown.alloc _) ⟨w.heap.size, 0, none⟩ 1 1 cs hA (by rw [hcl, Nat.one_mul])
    (fun j u hu => by rw [Addr.add_lit, World.cell?_alloc_new, Nat.zero_add, List.getElem?_toArray]; exact hu) h1 h63 hbytes (by simp; omega) ?_
  intro v' w' h2 h3 _ h5
  exact h v' w' h2 ((World.grownBy_alloc w _ _).trans' h3) (by simpa using h5)

/-! ### the same as equations of a run, for a region that draws -/
theorem exec_load_cells {t : TypeId} {p : String} {af : Array Edge} {ρ : Operand → Value} {dst : Option Tmp} {gd : Option (Nat × Bool)} (ty : TypeId) (x : Operand) (g off : Nat) (cs : List Value) (hx : ρ x = .pointer (some ⟨g, off, none⟩)) (d : TypeDesc) (hu : P.underlying ty = some d) (hd : (match d with | .struct _ | .array _ _ => true | _ => false) = true)
    (hi : (P.info? ty).map (·.size) = some cs.length) (hc : ∀ j u, cs[j]? = some u → w.cell? ⟨g, off + j, none⟩ = some u) : (execOp ρ ⟨dst, .load ty x, t, p, af, gd⟩).run P w = .ok (.value (.agg cs.toArray)) w := by
  unfold execOp
  simp only [hx, Instr.loadAt, Instr.sureAddr, Sem.run_bind, Sem.run_pure, Result.andThen_ok, run_loadVar_cells ty g off cs d hu hd hi hc]
theorem exec_build_all {t : TypeId} {p : String} {af : Array Edge} {ρ : Operand → Value} {dst : Option Tmp} {gd : Option (Nat × Bool)} (ty : TypeId) (parts : Array (Nat × Operand)) (i : TypeInfo) (z : Value) (ht : P.underlying ty = some (.struct (P.fieldsOf ty))) (hi : P.info? ty = some i) (hz : i.zero = some z)
    (pl : Array (Nat × Nat)) (hpl : ∀ w, ((P.fieldsOf ty).mapM (m := Sem) fun (f : Field) => do pure (f.offset, ← sizeOf f.type)).run P w = .ok pl w)
    (vs : List Value) (hparts : (parts.map fun (j, x) => (j, ρ x)) = (numbered 0 vs).toArray) (hp : Places (pl[·]?) 0 0 vs) (hl : z.cells.size = (flatc vs).length) :
    (execOp ρ ⟨dst, .build ty parts, t, p, af, gd⟩).run P w = .ok (.value (.agg (flatc vs).toArray)) w := by
  unfold execOp
  simp only [hparts, Sem.run_bind, run_build_all w ty i z ht hi hz pl (hpl w) vs hp hl, Result.andThen_ok, Sem.run_pure]
theorem wp_buildSlice {o : Oper} {K : Act → World → Prop} (t : TypeId) (n : Nat) (parts : Array (Nat × Operand)) (ho : o.op = .buildSlice t n parts) (e : TypeId) (i : TypeInfo) (z : Value) (size : Nat)
    (ht : P.underlying t = some (.slice e)) (hi : P.info? e = some i) (hz : i.zero = some z) (hsize : i.size = size) (vs : List Value) (hn : n = vs.length) (hparts : (parts.map fun (j, x) => (j, a.eval x)) = (numbered 0 vs).toArray)
    (hvs : ∀ v ∈ vs, v.cells.size = size) (hsmall : vs.length * size ≤ 16777216)
    (h : K (a.put o.dst (.slice (some ⟨w.heap.size, 0, none⟩) vs.length vs.length)) (w.alloc (.cells (flatc vs).toArray e))) : o.wp P a w K Q := by
  subst hn
  unfold Oper.wp execOp
  simp only [ho, hparts, Sem.run_bind, run_buildSlice_all w t e i z size ht hi hz hsize vs hvs hsmall, Result.andThen_ok, Sem.run_pure]
  exact h
theorem wp_buildSlice1 {o : Oper} {K : Act → World → Prop} (t : TypeId) (x : Operand) (ho : o.op = .buildSlice t 1 #[(0, x)]) (e : TypeId) (i : TypeInfo) (z : Value) (size : Nat)
    (ht : P.underlying t = some (.slice e)) (hi : P.info? e = some i) (hz : i.zero = some z) (hsize : i.size = size) (v : Value) (cs : List Value) (hx : a.eval x = v) (hv : v.cells.toList = cs) (hcl : cs.length = size) (hsm : size ≤ 16777216)
    (h : K (a.put o.dst (.slice (some ⟨w.heap.size, 0, none⟩) 1 1)) (w.alloc (.cells cs.toArray e))) : o.wp P a w K Q := by
  have hvc : v.cells.size = size := by rw [← hcl, ← hv, Array.length_toList]
  refine wp_buildSlice t 1 _ ho e i z size ht hi hz hsize [v] rfl (by simp [numbered, hx]) (by simpa using hvc) (by simpa using hsm) ?_
  rw [flatc_one, hv]
  exact h
theorem ownsRow_base {w : World} {b b' e size n : Nat} {v : Value} {xs : List Value} (h : w.ownsRow b e size v n xs) (hb : b' ≤ b) : w.ownsRow b' e size v n xs := by
  refine ⟨h.1, ?_⟩
  rcases h.2 with h2 | ⟨g, cap, cur, hv, hg, hr⟩
  · exact .inl h2
  · exact .inr ⟨g, cap, cur, hv, Nat.le_trans hb hg, hr⟩

/-! ### a block that is known whole: laid, written in part; the world is left open -/
theorem size_setRow' (w : World) (g : Nat) (cs : Array Value) : (w.setRow g cs).heap.size = w.heap.size := size_setRow w g cs
theorem wpList_store_blk {o : Oper} (hgd : o.guard = none) (ty : TypeId) (px x : Operand) (ho : o.op = .store ty px x) (g off : Nat) (e : TypeId) (c vs : List Value) (hb : Blk w g e c.toArray) (hp : a.eval px = .pointer (some ⟨g, off, none⟩)) (hx : a.eval x = .agg vs.toArray)
    (hi : (P.info? ty).map (·.size) = some vs.length) (hfit : off + vs.length ≤ c.length) (h1 : ∀ u ∈ vs, u.oneCell' = true)
    (h : ∀ w', Blk w' g e (c.take off ++ vs ++ c.drop (off + vs.length)).toArray → w.grownBy w' (some g) → w'.heap.size = w.heap.size → wpList P ops Q rest (a.put o.dst undef) w') : wpList P ops Q (o :: rest) a w := by
  refine wpList_plain hgd fun K hK => ?_
  have hst := run_storeCells_at P g off e vs 0 c.toArray w hb (by simpa using hfit) h1
  have hsv : (storeVar ty ⟨g, off, none⟩ (.agg vs.toArray)).run P w = .ok () (w.setRow g (c.take off ++ vs ++ c.drop (off + vs.length)).toArray) := by
    cases hq : P.info? ty with
    | none => simp [hq] at hi
    | some i =>
      have hs : i.size = vs.length := by simpa [hq] using hi
      simp [storeVar, sizeOf, typeInfo, hq, Value.cells, hs, hst]
  unfold Oper.wp execOp
  simp only [ho, hp, hx, Instr.storeAt, Instr.sureAddr, Sem.run_bind, Sem.run_pure, Result.andThen_ok, hsv]
  refine hK _ _ (h _ ?_ ⟨rfl, rfl, rfl, by simp, fun k _ hk => setRow_other w g k _ (fun e => hk (by simp [e]))⟩ (by simp))
  exact setRow_heap w g c.toArray _ e _ hb
theorem wpList_alloc_blk {o : Oper} (hgd : o.guard = none) (ty : TypeId) (ho : o.op = .alloc ty) (z : Value) (cs : List Value) (hzc : z.cells = cs.toArray) (hz : (P.info? ty).map (fun i => i.zero) = some (some z))
    (h : ∀ w', Blk w' w.heap.size ty cs.toArray → w.grownBy w' none → w'.heap.size = w.heap.size + 1 → wpList P ops Q rest (a.put o.dst (.pointer (some ⟨w.heap.size, 0, none⟩))) w') : wpList P ops Q (o :: rest) a w := by
  refine wpList_plain hgd fun K hK => ?_
  have hzv : (zeroValue ty).run P w = .ok z w := by
    cases hq : P.info? ty with
    | none => simp [hq] at hz
    | some i => simp [hq] at hz; simp [zeroValue, typeInfo, hq, hz]
  unfold Oper.wp execOp
  simp only [ho, Instr.alloc, Sem.run_bind, hzv, Result.andThen_ok, newVar, newRow, Sem.run_pure, newObj, Sem.run]
  exact hK _ _ (h _ (by rw [← hzc]; exact Blk.new _ _ _) (World.grownBy_alloc w _ _) (by simp [World.alloc]))

/-! ### a row of the call's own: an element stored whole, a tail cleared, a head cut off -/
theorem ownsRow_splice {base e size g n cap : Nat} {xs : List Value} (hown : w.ownsRow base e size (.slice (some ⟨g, 0, none⟩) n cap) n xs) (off : Nat) (vs : List Value) (hfit : off + vs.length ≤ n * size) (h1 : ∀ u ∈ vs, u.oneCell' = true) :
    ∃ w', (storeCells ⟨g, off, none⟩ vs).run P w = .ok () w' ∧ w'.ownsRow base e size (.slice (some ⟨g, 0, none⟩) n cap) n (xs.take off ++ vs ++ xs.drop (off + vs.length)) ∧ w.grownBy w' (some g) ∧ w'.heap.size = w.heap.size := by
  rcases hown.2 with ⟨hv, _⟩ | ⟨g', cap', cur, hv, hb, hg, hnc, hcm, hcs, htake⟩
  · simp at hv
  · simp only [Value.slice.injEq, Option.some.injEq, Addr.mk.injEq, and_true, true_and] at hv
    obtain ⟨rfl, rfl⟩ := hv
    have hle : n * size ≤ cap * size := Nat.mul_le_mul_right _ hnc
    have hcl : cur.toList.length = cap * size := by simpa using hcs
    have hst := run_storeCells_at P g off e vs 0 cur w hg (by rw [hcs]; omega) h1
    refine ⟨_, hst, ⟨?_, .inr ⟨g, cap, _, rfl, hb, setRow_heap w g cur _ e _ hg, hnc, hcm, ?_, ?_⟩⟩, ⟨rfl, rfl, rfl, by simp, fun k _ hk => setRow_other w g k _ (fun e => hk (by simp [e]))⟩, by simp⟩
    · have := hown.1
      simp only [List.length_append, List.length_take, List.length_drop]
      omega
    · simp only [List.size_toArray, List.length_append, List.length_take, List.length_drop, Nat.add_zero]
      omega
    · simp only [Nat.add_zero]
      rw [← htake]
      have hq : n * size ≤ cur.toList.length := by omega
      clear hst hcl hcs hcm htake hg
      generalize cur.toList = c at *
      rw [List.take_take, Nat.min_eq_left (by omega), List.take_append, List.take_of_length_le (by simp; omega), List.drop_take]
      congr 1
      congr 1
      simp
      omega
theorem wpList_store_own {o : Oper} (hgd : o.guard = none) (ty : TypeId) (px x : Operand) (ho : o.op = .store ty px x) (base e size g n cap off : Nat) (xs vs : List Value) (hown : w.ownsRow base e size (.slice (some ⟨g, 0, none⟩) n cap) n xs) (hp : a.eval px = .pointer (some ⟨g, off, none⟩)) (hx : a.eval x = .agg vs.toArray)
    (hi : (P.info? ty).map (·.size) = some vs.length) (hfit : off + vs.length ≤ n * size) (h1 : ∀ u ∈ vs, u.oneCell' = true)
    (h : ∀ w', w'.ownsRow base e size (.slice (some ⟨g, 0, none⟩) n cap) n (xs.take off ++ vs ++ xs.drop (off + vs.length)) → w.grownBy w' (some g) → w'.heap.size = w.heap.size → wpList P ops Q rest (a.put o.dst undef) w') : wpList P ops Q (o :: rest) a w := by
  refine wpList_plain hgd fun K hK => ?_
  obtain ⟨w', hst, h2, h3, h4⟩ := ownsRow_splice (P := P) hown off vs hfit h1
  have hsv : (storeVar ty ⟨g, off, none⟩ (.agg vs.toArray)).run P w = .ok () w' := by
    cases hq : P.info? ty with
    | none => simp [hq] at hi
    | some i =>
      have hs : i.size = vs.length := by simpa [hq] using hi
      simp [storeVar, sizeOf, typeInfo, hq, Value.cells, hs, hst]
  unfold Oper.wp execOp
  simp only [ho, hp, hx, Instr.storeAt, Instr.sureAddr, Sem.run_bind, Sem.run_pure, Result.andThen_ok, hsv]
  exact hK _ _ (h w' h2 h3 h4)
theorem wpList_clear_own {o : Oper} (hgd : o.guard = none) (x : Operand) (t : TypeId) (ho : o.op = .call { callee := .builtin .clear, args := #[x], argTypes := #[t] }) (base e size g n cap k m c' : Nat) (xs : List Value) (i : TypeInfo) (z : Value) (ht : P.underlying t = some (.slice e)) (hi : P.info? e = some i) (hz : i.zero = some z) (hzs : z.cells.size = size)
    (hz1 : ∀ u ∈ z.cells.toList, u.oneCell' = true) (hown : w.ownsRow base e size (.slice (some ⟨g, 0, none⟩) n cap) n xs) (hx : a.eval x = .slice (some ⟨g, k * size, none⟩) m c') (hm : 0 < m) (hkm : k + m = n)
    (h : ∀ w' ys, w'.ownsRow base e size (.slice (some ⟨g, 0, none⟩) n cap) n ys → ys.take (k * size) = xs.take (k * size) → w.grownBy w' (some g) → w'.heap.size = w.heap.size → wpList P ops Q rest (a.put o.dst (.tuple #[])) w') : wpList P ops Q (o :: rest) a w := by
  refine wpList_plain hgd fun K hK => ?_
  have hzl : (Builtin.zeroCells z.cells m).toList.length = m * size := by rw [Array.length_toList, size_zeroCells, hzs]
  obtain ⟨w', hst, h2, h3, h4⟩ := ownsRow_splice (P := P) hown (k * size) (Builtin.zeroCells z.cells m).toList (by rw [hzl, ← Nat.add_mul, hkm]; exact Nat.le_refl _) (by
    intro u hu
    simp only [Builtin.zeroCells, Array.toList_map, Array.toList_range, List.mem_map, List.mem_range] at hu
    obtain ⟨j, hj, rfl⟩ := hu
    have hpos : 0 < z.cells.size := by
      rcases Nat.eq_zero_or_pos z.cells.size with h0 | h0
      · rw [h0] at hj; simp at hj
      · exact h0
    have hlt := Nat.mod_lt j hpos
    rw [getElem!_pos z.cells _ hlt]
    exact hz1 _ (by simp))
  have hzv : (zeroValue e).run P w = .ok z w := by simp [zeroValue, typeInfo, hi, hz]
  obtain ⟨m', rfl⟩ : ∃ m', m = m' + 1 := ⟨m - 1, by omega⟩
  have hrun : (Builtin.clear_ #[t] o.type #[.slice (some ⟨g, k * size, none⟩) (m' + 1) c']).run P w = .ok (.tuple #[]) w' := by
    simp [Builtin.clear_, run_underlying ht, hzv, hst]
  unfold Oper.wp execOp
  simp only [ho, resolve, invoke, builtin, Sem.run_bind, Sem.run_pure, Result.andThen_ok, List.map_toArray, List.map_cons, List.map_nil, hx, hrun]
  refine hK _ _ (h w' _ h2 ?_ h3 h4)
  rw [List.append_assoc, List.take_append_of_le_length (by rw [List.length_take, hown.1]; exact Nat.le_min.2 ⟨Nat.le_refl _, Nat.mul_le_mul_right _ (by omega)⟩), List.take_take, Nat.min_self]
theorem ownsRow_head {base e size g n cap k : Nat} {xs : List Value} (hown : w.ownsRow base e size (.slice (some ⟨g, 0, none⟩) n cap) n xs) (hk : k ≤ n) : w.ownsRow base e size (.slice (some ⟨g, 0, none⟩) k cap) k (xs.take (k * size)) := by
  rcases hown.2 with ⟨hv, _⟩ | ⟨g', cap', cur, hv, hb, hg, hnc, hcm, hcs, htake⟩
  · simp at hv
  · simp only [Value.slice.injEq, Option.some.injEq, Addr.mk.injEq, and_true, true_and] at hv
    obtain ⟨rfl, rfl⟩ := hv
    have hle : k * size ≤ n * size := Nat.mul_le_mul_right _ hk
    refine ⟨by rw [List.length_take, hown.1]; exact Nat.min_eq_left hle, .inr ⟨g, cap, cur, rfl, hb, hg, by omega, hcm, hcs, ?_⟩⟩
    rw [← htake, List.take_take, Nat.min_eq_left hle]
end
end Go.Proofs.Ytnddahajfcmkiaa
