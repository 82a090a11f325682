/- Contract of the model's do. Conditions: at most 1,000 offers, outcomes from 0 to 5. -/
import Derived.Test.YtbcejdmgdgghfaaWr
import Derived.OwnWalk
namespace Go.Proofs.Ytbcejdmgdgghfaa
set_option linter.unusedSimpArgs false
set_option linter.unusedVariables false
set_option linter.unnecessarySimpa false
open Go.RowKit

def z58 : Value := .agg #[.int .i64 0, .slice none 0 0]
theorem info58 : (Try.prog.info? 58).map (fun i => (i.zero, i.size, i.bytes)) = some (some z58, 2, 32) := by kernel_rfl
theorem info58z : (Try.prog.info? 58).map (fun i => i.zero) = some (some z58) := by kernel_rfl
theorem size58 : (Try.prog.info? 58).map (·.size) = some 2 := by kernel_rfl
theorem size58' (a b : Value) : (Try.prog.info? 58).map (·.size) = some [a, b].length := size58
theorem fields58 (w : World) : ((Try.prog.fieldsOf 58).mapM (m := Sem) fun (f : Field) => do pure (f.offset, ← sizeOf f.type)).run Try.prog w = .ok #[(0, 1), (1, 1)] w := by kernel_rfl
theorem structs58 : Try.prog.underlying 58 = some (.struct (Try.prog.fieldsOf 58)) := by kernel_rfl
theorem exec_build58 {w : World} {ρ : Operand → Value} {dst : Option Tmp} {t : TypeId} {p : String} {af : Array Edge} {gd : Option (Nat × Bool)} (x z : Operand) (s : Int) (v : Value) (hx : ρ x = .int .i64 s) (hz : ρ z = v) (hv : ∃ A n c, v = .slice A n c) :
    (execOp ρ ⟨dst, .build 58 #[(0, x), (1, z)], t, p, af, gd⟩).run Try.prog w = .ok (.value (.agg #[.int .i64 s, v])) w := by
  obtain ⟨A, n, c, rfl⟩ := hv
  obtain ⟨i0, hi0, hz0, _, _⟩ := info_parts info58
  rw [exec_build_all 58 _ i0 z58 structs58 hi0 hz0 _ fields58 [.int .i64 s, .slice A n c] (by simp [numbered, hx, hz]) (by simp [Places, Value.cells]) rfl]
  rfl

section
variable {P : Program} (w : World)
theorem run_append_nil0 (t ty e : TypeId) (i : TypeInfo) (ht : P.underlying t = some (.slice e)) (hi : P.info? e = some i) (g c : Nat) : (Builtin.append_ #[t, t] ty #[.slice (some ⟨g, 0, none⟩) 0 0, .slice none 0 c]).run P w = .ok (.slice (some ⟨g, 0, none⟩) 0 0) w := by
  simp [Builtin.append_, run_underlying ht, sizeOf, typeInfo, hi, Builtin.lenOf, Builtin.firstCells, storeCells]
/-- a literal of no elements, a slice that reads as a list appended to it: nothing that was there turns -/
theorem run_append_zero (base : Nat) (t ty e : TypeId) (i : TypeInfo) (z : Value) (size bytes : Nat) (ht : P.underlying t = some (.slice e)) (hi : P.info? e = some i) (hz : i.zero = some z)
    (hsize : i.size = size) (hby : i.bytes = bytes) (hzs : z.cells.size = size) (hsz : 0 < size)
    (g0 : Nat) (hown : w.ownsRow base e size (.slice (some ⟨g0, 0, none⟩) 0 0) 0 []) (g : Nat) (A : Option Addr) (m c : Nat) (news : List Value) (hr : Rd w g size A m news)
    (h63 : m ≤ maxLen) (hbytes : m * bytes ≤ 140737488355328) (hbase : base ≤ w.heap.size) :
    ∃ v' w', (Builtin.append_ #[t, t] ty #[.slice (some ⟨g0, 0, none⟩) 0 0, .slice A m c]).run P w = .ok v' w' ∧ w'.ownsRow base e size v' m news ∧ Below w.heap.size w w' := by
  subst hsize
  subst hby
  rcases Nat.eq_zero_or_pos m with h0 | hp
  · subst h0
    have hn : news = [] := List.eq_nil_of_length_eq_zero (by simpa using hr.1)
    subst hn
    cases A with
    | none => exact ⟨_, w, run_append_nil0 w t ty e i ht hi g0 c, hown, Below.refl _ _⟩
    | some ad =>
      refine ⟨.slice (some ⟨g0, 0, none⟩) 0 0, w, ?_, hown, Below.refl _ _⟩
      simp [Builtin.append_, run_underlying ht, sizeOf, typeInfo, hi, Builtin.lenOf, Builtin.firstCells, storeCells, loadCells, loadCellsFrom]
  · obtain ⟨hg, off, rfl, hc⟩ := hr.2 hp
    have hsmall : m ≤ 9223372036854775807 := by simp only [maxLen] at h63; omega
    have hrun := run_append_grow (P := P) w t ty e i z ht hi hz ⟨g0, 0, none⟩ 0 0 [] (by simp) (by simp) ⟨g, off, none⟩ m c news hr.1 (fun j u hu => by rw [Addr.add_lit]; exact hc j u hu) (by omega) (by omega) (growslice_fits (by omega) (by rw [Nat.zero_add]; exact hbytes))
    simp only [Nat.zero_add] at hrun
    refine ⟨_, _, hrun, ⟨hr.1, .inr ⟨w.heap.size, _, _, rfl, hbase, heap_alloc_new w.drew _, ?_, ?_, ?_, ?_⟩⟩, ⟨rfl, rfl, rfl, by simp, fun k hk => heap_alloc_old w.drew _ hk⟩⟩
    · exact grownCap_ge w m 0 e
    · exact grownCap_le_maxLen w m 0 e (by omega)
    · have hge := grownCap_ge w m 0 e
      simp only [Array.size_append, List.size_toArray, size_zeroCells, hzs, List.length_nil, Nat.zero_add, hr.1, ← Nat.add_mul] at hge ⊢
      congr 1
      omega
    · simp only [Array.toList_append, List.append_assoc, List.nil_append]
      rw [← hr.1]
      exact List.take_left
end
theorem wp_app_zero {P : Program} {o : Oper} {a : Act} {w : World} {K : Act → World → Prop} {Q : Exit → Act → World → Prop} (s x : Operand) (t : TypeId) (ho : o.op = .call { callee := .builtin .append, args := #[s, x], argTypes := #[t, t] })
    (base : Nat) (e : TypeId) (i : TypeInfo) (z : Value) (size bytes : Nat) (ht : P.underlying t = some (.slice e)) (hi : P.info? e = some i) (hz : i.zero = some z) (hsize : i.size = size) (hby : i.bytes = bytes) (hzs : z.cells.size = size) (hsz : 0 < size)
    (g0 : Nat) (hs : a.eval s = .slice (some ⟨g0, 0, none⟩) 0 0) (hown : w.ownsRow base e size (.slice (some ⟨g0, 0, none⟩) 0 0) 0 []) (g : Nat) (A : Option Addr) (m c : Nat) (news : List Value) (hx : a.eval x = .slice A m c) (hr : Rd w g size A m news)
    (h63 : m ≤ maxLen) (hbytes : m * bytes ≤ 140737488355328) (hbase : base ≤ w.heap.size)
    (h : ∀ v' w', w'.ownsRow base e size v' m news → Below w.heap.size w w' → K (a.put o.dst v') w') : o.wp P a w K Q := by
  obtain ⟨v', w', hrun, h2, h3⟩ := run_append_zero (P := P) w base t o.type e i z size bytes ht hi hz hsize hby hzs hsz g0 hown g A m c news hr h63 hbytes hbase
  unfold Oper.wp execOp
  simp only [ho, resolve, invoke, builtin, Sem.run_bind, Sem.run_pure, Result.andThen_ok, List.map_toArray, List.map_cons, List.map_nil, hs, hx, hrun]
  exact h v' w' h2 h3
theorem wp_alloc_blk {P : Program} {o : Oper} {a : Act} {w : World} {K : Act → World → Prop} {Q : Exit → Act → World → Prop} (ty : TypeId) (ho : o.op = .alloc ty) (z : Value) (cs : List Value) (hzc : z.cells = cs.toArray) (hz : (P.info? ty).map (fun i => i.zero) = some (some z))
    (h : ∀ w', Blk w' w.heap.size ty cs.toArray → Below w.heap.size w w' → K (a.put o.dst (.pointer (some ⟨w.heap.size, 0, none⟩))) w') : o.wp P a w K Q := by
  have hzv : (zeroValue ty).run P w = .ok z w := by
    cases hq : P.info? ty with
    | none => simp [hq] at hz
    | some i => simp [hq] at hz; simp [zeroValue, typeInfo, hq, hz]
  unfold Oper.wp execOp
  simp only [ho, Instr.alloc, Sem.run_bind, hzv, Result.andThen_ok, newVar, newRow, Sem.run_pure, newObj, Sem.run]
  exact h _ (by rw [← hzc]; exact Blk.new _ _ _) (bnew w (.cells z.cells ty))
theorem own_slice' {w : World} {base e size n : Nat} {v : Value} {xs : List Value} (h : w.ownsRow base e size v n xs) : ∃ A n c, v = .slice A n c := by
  rcases h.2 with ⟨rfl, rfl⟩ | ⟨g, cap, cur, rfl, _⟩
  · exact ⟨_, _, _, rfl⟩
  · exact ⟨_, _, _, rfl⟩
theorem Blk.ne_ {w : World} {g g' : Nat} {t t' : TypeId} {cs cs' : Array Value} (h : Blk w g t cs) (h' : Blk w g' t' cs') (hne : t ≠ t') : g ≠ g' := by
  rintro rfl
  unfold Blk at h h'
  rw [h] at h'
  injection h' with h'
  injection h' with _ ht
  exact hne ht
theorem own_blk_ne {w : World} {g : Nat} {t : TypeId} {cs : Array Value} {base : Nat} {e : TypeId} {size n : Nat} {v : Value} {xs : List Value} (h : w.ownsRow base e size v n xs) (hg : Blk w g t cs) (hne : e ≠ t) : v.ownBlock ≠ some g := by
  rcases h.2 with ⟨rfl, _⟩ | ⟨g', cap, cur, rfl, _, hh, _⟩
  · simp [Value.ownBlock]
  · intro he
    have : g' = g := by simpa [Value.ownBlock] using he
    subst this
    exact Blk.ne_ (t := e) hh hg hne rfl

/-- the variables of a call of do: the model m, the operation, the result's variable, the copy n -/
structure DoVars (w : World) (b : Nat) (s : Int) (A : Option Addr) (c : Nat) (l : List Ofr) (g : Nat) (o : Op') (s' : Int) (v : Value) (l' : List Ofr) (bn : Nat) (wx : World) : Prop where
  m : Blk wx b 58 #[.int .i64 s, .slice A l.length c]
  op : Blk wx (b + 1) 51 (opc o).toArray
  res : Blk wx (b + 2) 58 #[.int .i64 0, .slice none 0 0]
  n : Blk wx bn 58 #[.int .i64 s', v]
  own : wx.ownsRow (b + 3) 72 34 v l'.length (l'.flatMap ofrc)
  rd : Rd wx g 34 A l.length (l.flatMap ofrc)
  lt : b + 3 ≤ bn
  gl : g < b ∨ l = []
  below : Below b w wx



theorem DoVars.below_ {w wx wy : World} {b bn g c : Nat} {s s' : Int} {A : Option Addr} {l l' : List Ofr} {o : Op'} {v : Value} (h : DoVars w b s A c l g o s' v l' bn wx) (hb : Below wx.heap.size wx wy) : DoVars w b s A c l g o s' v l' bn wy :=
  ⟨h.m.below hb, h.op.below hb, h.res.below hb, h.n.below hb, below_kept h.own hb, h.rd.below hb, h.lt, h.gl, h.below.trans (hb.mono (Nat.le_of_lt h.m.lt))⟩
section
variable {w wx : World} {b bn g c : Nat} {s s' : Int} {A : Option Addr} {l l' : List Ofr} {o : Op'} {v : Value}
theorem DoVars.op0 (h : DoVars w b s A c l g o s' v l' bn wx) : wx.cell? ⟨b + 1, 0, none⟩ = some (.int .u8 o.kind.toNat) := by rw [h.op.cell, List.getElem?_toArray, opc_0]
theorem DoVars.op33 (h : DoVars w b s A c l g o s' v l' bn wx) : wx.cell? ⟨b + 1, 33, none⟩ = some (.int .i64 o.n) := by rw [h.op.cell, List.getElem?_toArray, opc_33]
theorem DoVars.m0 (h : DoVars w b s A c l g o s' v l' bn wx) : wx.cell? ⟨b, 0, none⟩ = some (.int .i64 s) := by rw [h.m.cell]; rfl
theorem DoVars.m1 (h : DoVars w b s A c l g o s' v l' bn wx) : wx.cell? ⟨b, 1, none⟩ = some (.slice A l.length c) := by rw [h.m.cell]; rfl
end
/-- what a call of do leaves -/
def MPost (w : World) (g0 : Nat) (t : Stp) (e : Ending) (w' : World) : Prop :=
  ∃ A c g v1 v2, e = .returned (.tuple #[.agg #[.int .i64 t.size, .slice A t.offers.length c], .int .i64 t.err, v1, v2]) ∧ Rd w' g 34 A t.offers.length (t.offers.flatMap ofrc) ∧ t.offers.length ≤ c ∧
    w'.ownsRow w.heap.size 43 33 v1 t.res.length (t.res.flatMap resc) ∧ w'.ownsRow w.heap.size 37 32 v2 t.ids.length (t.ids.flatMap idc) ∧ Below w.heap.size w w' ∧ (g = g0 ∨ w.heap.size ≤ g)

/-- the last step of a way that gives back the model that came in -/
theorem mpost_same {w wx wy : World} {bn g c : Nat} {s s' : Int} {A : Option Addr} {l l' : List Ofr} {o : Op'} {v : Value} {t : Stp} {er : Int} (h : DoVars w w.heap.size s A c l g o s' v l' bn wx) (hg : wx.grownBy wy (some (w.heap.size + 2))) (hlc : l.length ≤ c) (ht : t = ⟨s, l, er, [], []⟩) :
    MPost w g t (.returned (.tuple #[.agg #[.int .i64 s, .slice A l.length c], .int .i64 er, .slice none 0 0, .slice none 0 0])) wy := by
  subst ht
  refine ⟨A, c, g, _, _, rfl, ?_, hlc, World.ownsRow_nil _ _ _ _, World.ownsRow_nil _ _ _ _, h.below.grown hg h.below.size (fun x hx => by simp at hx; omega), .inl rfl⟩
  rcases h.gl with h' | h'
  · exact h.rd.grown hg (by simp; omega)
  · subst h'; exact Rd.nil _ _ _ _



/-- the last step of a way that gives back the copy -/
theorem mpost_n {w wx wy : World} {bn g c n' c' : Nat} {s s' : Int} {A A' : Option Addr} {l l' : List Ofr} {o : Op'} {t : Stp} {v1 v2 : Value} {rs : List Res} {is : List Id} (h : DoVars w w.heap.size s A c l g o s' (.slice A' n' c') l' bn wx) (hg : wx.grownBy wy (some (w.heap.size + 2)))
    (h1 : wx.ownsRow w.heap.size 43 33 v1 rs.length (rs.flatMap resc)) (h2 : wx.ownsRow w.heap.size 37 32 v2 is.length (is.flatMap idc)) (ht : t = ⟨s', l', 0, rs, is⟩) :
    MPost w g t (.returned (.tuple #[.agg #[.int .i64 s', .slice A' n' c'], .int .i64 0, v1, v2])) wy := by
  subst ht
  obtain ⟨A2, c2, g2, e, hr, hc, hge⟩ := NewSl.own h.own
  simp only [Value.slice.injEq] at e
  obtain ⟨rfl, rfl, rfl⟩ := e
  have h1' := h1.kept hg (.inr (own_blk_ne h1 h.res (by decide)))
  have h2' := h2.kept hg (.inr (own_blk_ne h2 h.res (by decide)))
  have hb' : Below w.heap.size w wy := h.below.grown hg h.below.size (fun x hx => by simp at hx; omega)
  rcases Nat.eq_zero_or_pos l'.length with h0 | h0
  · have : l' = [] := List.eq_nil_of_length_eq_zero h0
    subst this
    exact ⟨A', c', w.heap.size, v1, v2, rfl, Rd.nil _ _ _ _, hc, h1', h2', hb', .inr (Nat.le_refl _)⟩
  · exact ⟨A', c', g2, v1, v2, rfl, hr.grown hg (by have := hge h0; simp; omega), hc, h1', h2', hb', .inr (by have := hge h0; omega)⟩

set_option maxRecDepth 20000 in
set_option maxHeartbeats 2000000 in
theorem do_0a (g c : Nat) (A : Option Addr) (s : Int) (l : List Ofr) (o : Op') (ix : Int) (w : World) (hr : Rd w g 34 A l.length (l.flatMap ofrc)) (hl : l.length ≤ 1000) (hlc : l.length ≤ c) (hok : OkL l) (HIX : Hid (idxI (isId o.id) l 0 = ix)) (HK : Hid (knd o = 0)) (HN : Hid (badN o.n = true)) :
    Calls Try.prog 33 #[.agg #[.int .i64 s, .slice A l.length c], .agg (opc o).toArray] w (MPost w g (stepW s l o)) := by
  have hkl := o.kind.toNat_lt
  obtain ⟨i0, hi0, hz0, hz1, hz2⟩ := info_parts info72
  have hb3 : Below w.heap.size w (((w.alloc (.cells #[.int .i64 s, .slice A l.length c] 58)).alloc (.cells (opc o).toArray 51)).alloc (.cells #[.int .i64 0, .slice none 0 0] 58)) := ((bnew w _).trans' (bnew _ _)).trans' (bnew _ _)
  have HR := Lib.hid (hr.below hb3)
  have hgl : g < w.heap.size ∨ l = [] := by
    rcases Nat.eq_zero_or_pos l.length with h0 | h0
    · exact .inr (List.eq_nil_of_length_eq_zero h0)
    · exact .inl (hr.2 h0).1
  have HGL := Lib.hid hgl
  have HB := Lib.hid hb3
  have hm := ((Blk.new w 58 #[.int .i64 s, .slice A l.length c]).alloc (.cells (opc o).toArray 51)).alloc (.cells #[.int .i64 0, .slice none 0 0] 58)
  have HM := Lib.hid hm
  have hop : Blk (((w.alloc (.cells #[.int .i64 s, .slice A l.length c] 58)).alloc (.cells (opc o).toArray 51)).alloc (.cells #[.int .i64 0, .slice none 0 0] 58)) (w.heap.size + 1) 51 (opc o).toArray := by simpa using ((Blk.new (w.alloc (.cells #[.int .i64 s, .slice A l.length c] 58)) 51 (opc o).toArray).alloc (.cells #[.int .i64 0, .slice none 0 0] 58))
  have HOP := Lib.hid hop
  have hrs : Blk (((w.alloc (.cells #[.int .i64 s, .slice A l.length c] 58)).alloc (.cells (opc o).toArray 51)).alloc (.cells #[.int .i64 0, .slice none 0 0] 58)) (w.heap.size + 2) 58 #[.int .i64 0, .slice none 0 0] := by simpa using (Blk.new ((w.alloc (.cells #[.int .i64 s, .slice A l.length c] 58)).alloc (.cells (opc o).toArray 51)) 58 #[.int .i64 0, .slice none 0 0])
  have HRS := Lib.hid hrs
  have m0 := hm.cell 0
  have m1 := hm.cell 1
  simp only [List.getElem?_toArray, List.getElem?_cons_succ, List.getElem?_cons_zero] at m0 m1
  have hlt := hm.lt
  have hsz3 : w.heap.size + 3 = (((w.alloc (.cells #[.int .i64 s, .slice A l.length c] 58)).alloc (.cells (opc o).toArray 51)).alloc (.cells #[.int .i64 0, .slice none 0 0] 58)).heap.size := by simp
  have HSZ := Lib.hid hsz3
  have HLT := Lib.hid hlt
  have M0 := Lib.hid m0
  have M1 := Lib.hid m1
  have HOK := Lib.hid hok
  clear hr hb3 hm m0 m1 hlt hsz3 hgl hok hop hrs
  go_enter Try.func33, Try.ntmps33
  go_wp2_with fail
  refine wp_region_seq (nt := 166) (by kernel_rfl) [0,1,2,3,4,5,6,7] [8] Rb Rb.refl Rb.trans [(2, fun v w' => ∃ g0, v = .slice (some ⟨g0, 0, none⟩) 0 0 ∧ w'.ownsRow (w.heap.size + 3) 72 34 v 0 []), (5, fun v w' => w'.ownsRow (w.heap.size + 3) 72 34 v l.length (l.flatMap ofrc)), (7, fun v w' => ∃ k, v = .pointer (some ⟨k, 0, none⟩) ∧ w.heap.size + 3 ≤ k ∧ Blk w' k 58 #[.int .i64 0, .slice none 0 0])] (by kernel_rfl) (by simp) rfl (by kernel_rfl) (by simp) ?_ ?_
  · refine ⟨fun v w w' _ h2 ⟨g0, h, h'⟩ => ⟨g0, h, below_kept h' h2⟩, fun v w w' _ h2 h => below_kept h h2, fun v w w' _ h2 h => ?_, trivial⟩
    obtain ⟨k, rfl, hk0, hk⟩ := h
    exact ⟨k, rfl, hk0, hk.below h2⟩
  (refine' Sq.det (E := _) (b := _) (by rfl) (by rfl) (by rfl) (fun w' hR hf => ?_) ?_ ?_; rotate_left 2; (· (go_simp; first | done | with_reducible rfl)); (· (simp only [Act.put, List.setIfInBounds_toArray, List.set_cons_zero, List.set_cons_succ]; first | done | rfl)))
  (refine' Sq.det (E := _) (b := _) (by rfl) (by rfl) (by rfl) (fun w' hR hf => ?_) ?_ ?_; rotate_left 2; (· (have hc : w'.cell? ⟨w.heap.size, 0, none⟩ = some (.int .i64 s) := ((below_undrew hR).cell (p := ⟨w.heap.size, 0, none⟩) HLT.out).trans M0.out; go_simp; first | done | with_reducible rfl)); (· (simp only [Act.put, List.setIfInBounds_toArray, List.set_cons_zero, List.set_cons_succ]; first | done | rfl)))
  (refine' Sq.any (f := _) (by rfl) (by rfl) (by rfl) (fun w' hR hf => ?_) (fun v => ?_) (fun v0 => ?_); (· (refine wp_buildSlice 56 0 _ rfl 72 i0 z81 34 Try.underlying56 hi0 hz0 hz1 [] rfl (by simp [numbered]) (by simp) (by simp) ?_; exact ⟨rfl, bnew _ _, _, rfl, World.ownsRow_made w' _ 0 (Nat.le_trans (Nat.le_of_eq HSZ.out) (below_undrew hR).size) (Nat.zero_le _) rfl⟩)); rotate_left 1; (· (simp only [Act.put, List.setIfInBounds_toArray, List.set_cons_zero, List.set_cons_succ]; first | done | rfl)))
  (refine' Sq.det (E := _) (b := _) (by rfl) (by rfl) (by rfl) (fun w' hR hf => ?_) ?_ ?_; rotate_left 2; (· (go_simp; first | done | with_reducible rfl)); (· (simp only [Act.put, List.setIfInBounds_toArray, List.set_cons_zero, List.set_cons_succ]; first | done | rfl)))
  (refine' Sq.det (E := _) (b := _) (by rfl) (by rfl) (by rfl) (fun w' hR hf => ?_) ?_ ?_; rotate_left 2; (· (have hc : w'.cell? ⟨w.heap.size, 1, none⟩ = some (.slice A l.length c) := ((below_undrew hR).cell (p := ⟨w.heap.size, 1, none⟩) HLT.out).trans M1.out; go_simp; first | done | with_reducible rfl)); (· (simp only [Act.put, List.setIfInBounds_toArray, List.set_cons_zero, List.set_cons_succ]; first | done | rfl)))
  (refine' Sq.any (f := _) (by rfl) (by rfl) (by rfl) (fun w' hR hf => ?_) (fun v => ?_) (fun v5 => ?_); (· (obtain ⟨g0, hv0, hv⟩ : ∃ g0, v0 = .slice (some ⟨g0, 0, none⟩) 0 0 ∧ w'.ownsRow (w.heap.size + 3) 72 34 v0 0 [] := hf 2 (by decide) _ rfl; subst hv0; refine wp_app_zero _ _ 56 rfl (w.heap.size + 3) 72 i0 z81 34 48 Try.underlying56 hi0 hz0 hz1 hz2 z81_size (by omega) g0 (by kernel_rfl) hv g A l.length c (l.flatMap ofrc) (by kernel_rfl) (HR.out.below (below_undrew hR)) (by simp only [maxLen]; omega) (by omega) (Nat.le_trans (Nat.le_of_eq HSZ.out) (below_undrew hR).size) ?_; intro v' w1 ho1 hg1; exact ⟨rfl, hg1, ho1⟩)); rotate_left 1; (· (simp only [Act.put, List.setIfInBounds_toArray, List.set_cons_zero, List.set_cons_succ]; first | done | rfl)))
  (refine' Sq.det (E := _) (b := _) (by rfl) (by rfl) (by rfl) (fun w' hR hf => ?_) ?_ ?_; rotate_left 2; (· (have hv : w'.ownsRow (w.heap.size + 3) 72 34 v5 l.length (l.flatMap ofrc) := hf 5 (by decide) _ rfl; exact exec_build58 _ _ s v5 (by kernel_rfl) (by kernel_rfl) (own_slice' hv))); (· (simp only [Act.put, List.setIfInBounds_toArray, List.set_cons_zero, List.set_cons_succ]; first | done | rfl)))
  (refine' Sq.any (f := _) (by rfl) (by rfl) (by rfl) (fun w' hR hf => ?_) (fun v => ?_) (fun v7 => ?_); (· (refine wp_alloc_blk 58 rfl z58 [.int .i64 0, .slice none 0 0] rfl info58z ?_; intro w1 hk1 hk2; exact ⟨rfl, hk2, _, rfl, Nat.le_trans (Nat.le_of_eq HSZ.out) (below_undrew hR).size, hk1⟩)); rotate_left 1; (· (simp only [Act.put, List.setIfInBounds_toArray, List.set_cons_zero, List.set_cons_succ]; first | done | rfl)))
  refine Sq.tail1 (by rfl) fun wq hR hps => ?_
  have h5 : wq.ownsRow (w.heap.size + 3) 72 34 v5 l.length (l.flatMap ofrc) := hps 5 (by decide) _ rfl
  obtain ⟨bn, hbn, hb3, hblk⟩ : ∃ k, v7 = .pointer (some ⟨k, 0, none⟩) ∧ w.heap.size + 3 ≤ k ∧ Blk wq k 58 #[.int .i64 0, .slice none 0 0] := hps 7 (by decide) _ rfl
  subst hbn
  clear hps
  have hR' := below_undrew hR
  refine wpList_store_blk rfl 58 _ _ rfl bn 0 58 [.int .i64 0, .slice none 0 0] [.int .i64 s, v5] hblk (by kernel_rfl) (by kernel_rfl) (size58' _ _) (by simp) (by obtain ⟨A, n, c, rfl⟩ := own_slice' h5; simp [Value.oneCell']) ?_
  intro w1 hn1 hg1 hz1'
  have hne := own_blk_ne h5 hblk (by decide)
  have hrd : Rd w1 g 34 A l.length (l.flatMap ofrc) := by
    rcases HGL.out with h | h
    · exact (HR.out.below hR').grown hg1 (by simp; omega)
    · subst h; exact Rd.nil _ _ _ _
  have hdv : DoVars w w.heap.size s A c l g o s v5 l bn w1 :=
    ⟨(HM.out.below hR').grown hg1 (by simp; omega), (HOP.out.below hR').grown hg1 (by simp; omega), (HRS.out.below hR').grown hg1 (by simp; omega), hn1, h5.kept hg1 (.inr hne), hrd, hb3, HGL.out, (HB.out.trans (hR'.mono HB.out.size)).grown hg1 (Nat.le_trans HB.out.size hR'.size) (fun x hx => by simp at hx; omega)⟩
  have HD := Lib.hid hdv
  obtain ⟨A5, n5, c5, rfl⟩ := own_slice' h5
  clear hdv hrd hne hn1 hg1 hz1' hR' hblk h5 hR HR HB HM HOP HRS HSZ HLT M0 M1 HGL
  have hrm := rem5 o.kind.toNat (by omega) 0 HK.out
  have hn := HN.out
  unfold badN at hn
  by_cases h0 : o.n < 0
  · clear hn
    go_wp2_with (first
      | (with_reducible refine at_dst 19 ?_; refine wpList_load_cells rfl 58 _ rfl w.heap.size 0 [.int .i64 s, .slice A l.length c] rfl _ Try.underlying58 rfl (size58' _ _) (fun j u hu => by rw [Nat.zero_add, HD.out.m.cell, List.getElem?_toArray]; exact hu) ?_)
      | (with_reducible refine at_dst 21 ?_; refine wpList_load_cells rfl 37 _ rfl (w.heap.size + 1) 1 (idc o.id) rfl _ Try.underlying37 rfl (sz_id _) (fun j u hu => ?_) ?_; (have hj : j < 32 := by (have := (List.getElem?_eq_some_iff.1 hu).1; rwa [idc_len] at this)); (rw [HD.out.op.cell, List.getElem?_toArray, opc_id _ j hj]; exact hu))
      | (go_at_call 30; with_reducible refine (mfind_any g c A s l o.id _ HD.out.rd (by omega)).mono ?_; rintro e w2 ⟨he, hb2⟩; rw [HIX.out] at he; subst he; have HD2 := Lib.hid (HD.out.below_ hb2); have hc0 := HD2.out.op0; have hc33 := HD2.out.op33; have hm0 := HD2.out.m0; have hm1 := HD2.out.m1; clear hb2)
      | (with_reducible refine at_dst 48 ?_; refine wpList_load_cells rfl 58 _ rfl w.heap.size 0 [.int .i64 s, .slice A l.length c] rfl _ Try.underlying58 rfl (size58' _ _) (fun j u hu => by rw [Nat.zero_add, HD2.out.m.cell, List.getElem?_toArray]; exact hu) ?_)
      | (with_reducible refine at_store 58 4 ?_; refine wpList_store_blk rfl 58 _ _ rfl (w.heap.size + 1 + 1) 0 58 [.int .i64 0, .slice none 0 0] [.int .i64 s, .slice A l.length c] HD2.out.res rfl rfl (size58' _ _) (by simp) (by simp [Value.oneCell']) ?_; intro w9 hn9 hg9 _; have hr0 := hn9.cell 0; have hr1 := hn9.cell 1; simp only [List.getElem?_toArray, List.take_zero, List.nil_append, List.length_cons, List.length_nil, Nat.zero_add, List.drop_succ_cons, List.drop_zero, List.append_nil, List.cons_append, List.getElem?_cons_succ, List.getElem?_cons_zero] at hr0 hr1; have HG9 := Lib.hid hg9; clear hn9 hg9)
      )
    refine bodyPost_ret (v := .tuple #[.agg #[.int .i64 s, .slice A l.length c], .int .i64 2, .slice none 0 0, .slice none 0 0]) (by simp [results, Try.results33, go_sem, hr0, hr1]) rfl ?_
    refine mpost_same HD2.out HG9.out hlc ?_
    rw [stepW, if_pos HK.out]
    simp [offL, offE, HN.out]
  · have h1 : 65536 < o.n := by
      simp only [Bool.or_eq_true, decide_eq_true_eq] at hn
      omega
    clear hn
    go_wp2_with (first
      | (with_reducible refine at_dst 19 ?_; refine wpList_load_cells rfl 58 _ rfl w.heap.size 0 [.int .i64 s, .slice A l.length c] rfl _ Try.underlying58 rfl (size58' _ _) (fun j u hu => by rw [Nat.zero_add, HD.out.m.cell, List.getElem?_toArray]; exact hu) ?_)
      | (with_reducible refine at_dst 21 ?_; refine wpList_load_cells rfl 37 _ rfl (w.heap.size + 1) 1 (idc o.id) rfl _ Try.underlying37 rfl (sz_id _) (fun j u hu => ?_) ?_; (have hj : j < 32 := by (have := (List.getElem?_eq_some_iff.1 hu).1; rwa [idc_len] at this)); (rw [HD.out.op.cell, List.getElem?_toArray, opc_id _ j hj]; exact hu))
      | (go_at_call 30; with_reducible refine (mfind_any g c A s l o.id _ HD.out.rd (by omega)).mono ?_; rintro e w2 ⟨he, hb2⟩; rw [HIX.out] at he; subst he; have HD2 := Lib.hid (HD.out.below_ hb2); have hc0 := HD2.out.op0; have hc33 := HD2.out.op33; have hm0 := HD2.out.m0; have hm1 := HD2.out.m1; clear hb2)
      | (with_reducible refine at_dst 48 ?_; refine wpList_load_cells rfl 58 _ rfl w.heap.size 0 [.int .i64 s, .slice A l.length c] rfl _ Try.underlying58 rfl (size58' _ _) (fun j u hu => by rw [Nat.zero_add, HD2.out.m.cell, List.getElem?_toArray]; exact hu) ?_)
      | (with_reducible refine at_store 58 4 ?_; refine wpList_store_blk rfl 58 _ _ rfl (w.heap.size + 1 + 1) 0 58 [.int .i64 0, .slice none 0 0] [.int .i64 s, .slice A l.length c] HD2.out.res rfl rfl (size58' _ _) (by simp) (by simp [Value.oneCell']) ?_; intro w9 hn9 hg9 _; have hr0 := hn9.cell 0; have hr1 := hn9.cell 1; simp only [List.getElem?_toArray, List.take_zero, List.nil_append, List.length_cons, List.length_nil, Nat.zero_add, List.drop_succ_cons, List.drop_zero, List.append_nil, List.cons_append, List.getElem?_cons_succ, List.getElem?_cons_zero] at hr0 hr1; have HG9 := Lib.hid hg9; clear hn9 hg9)
      )
    refine bodyPost_ret (v := .tuple #[.agg #[.int .i64 s, .slice A l.length c], .int .i64 2, .slice none 0 0, .slice none 0 0]) (by simp [results, Try.results33, go_sem, hr0, hr1]) rfl ?_
    refine mpost_same HD2.out HG9.out hlc ?_
    rw [stepW, if_pos HK.out]
    simp [offL, offE, HN.out]

set_option maxRecDepth 20000 in
set_option maxHeartbeats 2000000 in
theorem do_0b (g c : Nat) (A : Option Addr) (s : Int) (l : List Ofr) (o : Op') (ix : Int) (w : World) (hr : Rd w g 34 A l.length (l.flatMap ofrc)) (hl : l.length ≤ 1000) (hlc : l.length ≤ c) (hok : OkL l) (HIX : Hid (idxI (isId o.id) l 0 = ix)) (HK : Hid (knd o = 0)) (HN : Hid (badN o.n = false)) (HH : Hid (hasId l o.id = true)) (h0 : 0 ≤ ix) :
    Calls Try.prog 33 #[.agg #[.int .i64 s, .slice A l.length c], .agg (opc o).toArray] w (MPost w g (stepW s l o)) := by
  have hkl := o.kind.toNat_lt
  obtain ⟨i0, hi0, hz0, hz1, hz2⟩ := info_parts info72
  have hb3 : Below w.heap.size w (((w.alloc (.cells #[.int .i64 s, .slice A l.length c] 58)).alloc (.cells (opc o).toArray 51)).alloc (.cells #[.int .i64 0, .slice none 0 0] 58)) := ((bnew w _).trans' (bnew _ _)).trans' (bnew _ _)
  have HR := Lib.hid (hr.below hb3)
  have hgl : g < w.heap.size ∨ l = [] := by
    rcases Nat.eq_zero_or_pos l.length with h0 | h0
    · exact .inr (List.eq_nil_of_length_eq_zero h0)
    · exact .inl (hr.2 h0).1
  have HGL := Lib.hid hgl
  have HB := Lib.hid hb3
  have hm := ((Blk.new w 58 #[.int .i64 s, .slice A l.length c]).alloc (.cells (opc o).toArray 51)).alloc (.cells #[.int .i64 0, .slice none 0 0] 58)
  have HM := Lib.hid hm
  have hop : Blk (((w.alloc (.cells #[.int .i64 s, .slice A l.length c] 58)).alloc (.cells (opc o).toArray 51)).alloc (.cells #[.int .i64 0, .slice none 0 0] 58)) (w.heap.size + 1) 51 (opc o).toArray := by simpa using ((Blk.new (w.alloc (.cells #[.int .i64 s, .slice A l.length c] 58)) 51 (opc o).toArray).alloc (.cells #[.int .i64 0, .slice none 0 0] 58))
  have HOP := Lib.hid hop
  have hrs : Blk (((w.alloc (.cells #[.int .i64 s, .slice A l.length c] 58)).alloc (.cells (opc o).toArray 51)).alloc (.cells #[.int .i64 0, .slice none 0 0] 58)) (w.heap.size + 2) 58 #[.int .i64 0, .slice none 0 0] := by simpa using (Blk.new ((w.alloc (.cells #[.int .i64 s, .slice A l.length c] 58)).alloc (.cells (opc o).toArray 51)) 58 #[.int .i64 0, .slice none 0 0])
  have HRS := Lib.hid hrs
  have m0 := hm.cell 0
  have m1 := hm.cell 1
  simp only [List.getElem?_toArray, List.getElem?_cons_succ, List.getElem?_cons_zero] at m0 m1
  have hlt := hm.lt
  have hsz3 : w.heap.size + 3 = (((w.alloc (.cells #[.int .i64 s, .slice A l.length c] 58)).alloc (.cells (opc o).toArray 51)).alloc (.cells #[.int .i64 0, .slice none 0 0] 58)).heap.size := by simp
  have HSZ := Lib.hid hsz3
  have HLT := Lib.hid hlt
  have M0 := Lib.hid m0
  have M1 := Lib.hid m1
  have HOK := Lib.hid hok
  clear hr hb3 hm m0 m1 hlt hsz3 hgl hok hop hrs
  go_enter Try.func33, Try.ntmps33
  go_wp2_with fail
  refine wp_region_seq (nt := 166) (by kernel_rfl) [0,1,2,3,4,5,6,7] [8] Rb Rb.refl Rb.trans [(2, fun v w' => ∃ g0, v = .slice (some ⟨g0, 0, none⟩) 0 0 ∧ w'.ownsRow (w.heap.size + 3) 72 34 v 0 []), (5, fun v w' => w'.ownsRow (w.heap.size + 3) 72 34 v l.length (l.flatMap ofrc)), (7, fun v w' => ∃ k, v = .pointer (some ⟨k, 0, none⟩) ∧ w.heap.size + 3 ≤ k ∧ Blk w' k 58 #[.int .i64 0, .slice none 0 0])] (by kernel_rfl) (by simp) rfl (by kernel_rfl) (by simp) ?_ ?_
  · refine ⟨fun v w w' _ h2 ⟨g0, h, h'⟩ => ⟨g0, h, below_kept h' h2⟩, fun v w w' _ h2 h => below_kept h h2, fun v w w' _ h2 h => ?_, trivial⟩
    obtain ⟨k, rfl, hk0, hk⟩ := h
    exact ⟨k, rfl, hk0, hk.below h2⟩
  (refine' Sq.det (E := _) (b := _) (by rfl) (by rfl) (by rfl) (fun w' hR hf => ?_) ?_ ?_; rotate_left 2; (· (go_simp; first | done | with_reducible rfl)); (· (simp only [Act.put, List.setIfInBounds_toArray, List.set_cons_zero, List.set_cons_succ]; first | done | rfl)))
  (refine' Sq.det (E := _) (b := _) (by rfl) (by rfl) (by rfl) (fun w' hR hf => ?_) ?_ ?_; rotate_left 2; (· (have hc : w'.cell? ⟨w.heap.size, 0, none⟩ = some (.int .i64 s) := ((below_undrew hR).cell (p := ⟨w.heap.size, 0, none⟩) HLT.out).trans M0.out; go_simp; first | done | with_reducible rfl)); (· (simp only [Act.put, List.setIfInBounds_toArray, List.set_cons_zero, List.set_cons_succ]; first | done | rfl)))
  (refine' Sq.any (f := _) (by rfl) (by rfl) (by rfl) (fun w' hR hf => ?_) (fun v => ?_) (fun v0 => ?_); (· (refine wp_buildSlice 56 0 _ rfl 72 i0 z81 34 Try.underlying56 hi0 hz0 hz1 [] rfl (by simp [numbered]) (by simp) (by simp) ?_; exact ⟨rfl, bnew _ _, _, rfl, World.ownsRow_made w' _ 0 (Nat.le_trans (Nat.le_of_eq HSZ.out) (below_undrew hR).size) (Nat.zero_le _) rfl⟩)); rotate_left 1; (· (simp only [Act.put, List.setIfInBounds_toArray, List.set_cons_zero, List.set_cons_succ]; first | done | rfl)))
  (refine' Sq.det (E := _) (b := _) (by rfl) (by rfl) (by rfl) (fun w' hR hf => ?_) ?_ ?_; rotate_left 2; (· (go_simp; first | done | with_reducible rfl)); (· (simp only [Act.put, List.setIfInBounds_toArray, List.set_cons_zero, List.set_cons_succ]; first | done | rfl)))
  (refine' Sq.det (E := _) (b := _) (by rfl) (by rfl) (by rfl) (fun w' hR hf => ?_) ?_ ?_; rotate_left 2; (· (have hc : w'.cell? ⟨w.heap.size, 1, none⟩ = some (.slice A l.length c) := ((below_undrew hR).cell (p := ⟨w.heap.size, 1, none⟩) HLT.out).trans M1.out; go_simp; first | done | with_reducible rfl)); (· (simp only [Act.put, List.setIfInBounds_toArray, List.set_cons_zero, List.set_cons_succ]; first | done | rfl)))
  (refine' Sq.any (f := _) (by rfl) (by rfl) (by rfl) (fun w' hR hf => ?_) (fun v => ?_) (fun v5 => ?_); (· (obtain ⟨g0, hv0, hv⟩ : ∃ g0, v0 = .slice (some ⟨g0, 0, none⟩) 0 0 ∧ w'.ownsRow (w.heap.size + 3) 72 34 v0 0 [] := hf 2 (by decide) _ rfl; subst hv0; refine wp_app_zero _ _ 56 rfl (w.heap.size + 3) 72 i0 z81 34 48 Try.underlying56 hi0 hz0 hz1 hz2 z81_size (by omega) g0 (by kernel_rfl) hv g A l.length c (l.flatMap ofrc) (by kernel_rfl) (HR.out.below (below_undrew hR)) (by simp only [maxLen]; omega) (by omega) (Nat.le_trans (Nat.le_of_eq HSZ.out) (below_undrew hR).size) ?_; intro v' w1 ho1 hg1; exact ⟨rfl, hg1, ho1⟩)); rotate_left 1; (· (simp only [Act.put, List.setIfInBounds_toArray, List.set_cons_zero, List.set_cons_succ]; first | done | rfl)))
  (refine' Sq.det (E := _) (b := _) (by rfl) (by rfl) (by rfl) (fun w' hR hf => ?_) ?_ ?_; rotate_left 2; (· (have hv : w'.ownsRow (w.heap.size + 3) 72 34 v5 l.length (l.flatMap ofrc) := hf 5 (by decide) _ rfl; exact exec_build58 _ _ s v5 (by kernel_rfl) (by kernel_rfl) (own_slice' hv))); (· (simp only [Act.put, List.setIfInBounds_toArray, List.set_cons_zero, List.set_cons_succ]; first | done | rfl)))
  (refine' Sq.any (f := _) (by rfl) (by rfl) (by rfl) (fun w' hR hf => ?_) (fun v => ?_) (fun v7 => ?_); (· (refine wp_alloc_blk 58 rfl z58 [.int .i64 0, .slice none 0 0] rfl info58z ?_; intro w1 hk1 hk2; exact ⟨rfl, hk2, _, rfl, Nat.le_trans (Nat.le_of_eq HSZ.out) (below_undrew hR).size, hk1⟩)); rotate_left 1; (· (simp only [Act.put, List.setIfInBounds_toArray, List.set_cons_zero, List.set_cons_succ]; first | done | rfl)))
  refine Sq.tail1 (by rfl) fun wq hR hps => ?_
  have h5 : wq.ownsRow (w.heap.size + 3) 72 34 v5 l.length (l.flatMap ofrc) := hps 5 (by decide) _ rfl
  obtain ⟨bn, hbn, hb3, hblk⟩ : ∃ k, v7 = .pointer (some ⟨k, 0, none⟩) ∧ w.heap.size + 3 ≤ k ∧ Blk wq k 58 #[.int .i64 0, .slice none 0 0] := hps 7 (by decide) _ rfl
  subst hbn
  clear hps
  have hR' := below_undrew hR
  refine wpList_store_blk rfl 58 _ _ rfl bn 0 58 [.int .i64 0, .slice none 0 0] [.int .i64 s, v5] hblk (by kernel_rfl) (by kernel_rfl) (size58' _ _) (by simp) (by obtain ⟨A, n, c, rfl⟩ := own_slice' h5; simp [Value.oneCell']) ?_
  intro w1 hn1 hg1 hz1'
  have hne := own_blk_ne h5 hblk (by decide)
  have hrd : Rd w1 g 34 A l.length (l.flatMap ofrc) := by
    rcases HGL.out with h | h
    · exact (HR.out.below hR').grown hg1 (by simp; omega)
    · subst h; exact Rd.nil _ _ _ _
  have hdv : DoVars w w.heap.size s A c l g o s v5 l bn w1 :=
    ⟨(HM.out.below hR').grown hg1 (by simp; omega), (HOP.out.below hR').grown hg1 (by simp; omega), (HRS.out.below hR').grown hg1 (by simp; omega), hn1, h5.kept hg1 (.inr hne), hrd, hb3, HGL.out, (HB.out.trans (hR'.mono HB.out.size)).grown hg1 (Nat.le_trans HB.out.size hR'.size) (fun x hx => by simp at hx; omega)⟩
  have HD := Lib.hid hdv
  obtain ⟨A5, n5, c5, rfl⟩ := own_slice' h5
  clear hdv hrd hne hn1 hg1 hz1' hR' hblk h5 hR HR HB HM HOP HRS HSZ HLT M0 M1 HGL
  have hrm := rem5 o.kind.toNat (by omega) 0 HK.out
  have hn := HN.out
  unfold badN at hn
  simp only [Bool.or_eq_false_iff] at hn
  obtain ⟨hn1, hn2⟩ := hn
  go_wp2_with (first
    | (with_reducible refine at_dst 19 ?_; refine wpList_load_cells rfl 58 _ rfl w.heap.size 0 [.int .i64 s, .slice A l.length c] rfl _ Try.underlying58 rfl (size58' _ _) (fun j u hu => by rw [Nat.zero_add, HD.out.m.cell, List.getElem?_toArray]; exact hu) ?_)
    | (with_reducible refine at_dst 21 ?_; refine wpList_load_cells rfl 37 _ rfl (w.heap.size + 1) 1 (idc o.id) rfl _ Try.underlying37 rfl (sz_id _) (fun j u hu => ?_) ?_; (have hj : j < 32 := by (have := (List.getElem?_eq_some_iff.1 hu).1; rwa [idc_len] at this)); (rw [HD.out.op.cell, List.getElem?_toArray, opc_id _ j hj]; exact hu))
    | (go_at_call 30; with_reducible refine (mfind_any g c A s l o.id _ HD.out.rd (by omega)).mono ?_; rintro e w2 ⟨he, hb2⟩; rw [HIX.out] at he; subst he; have HD2 := Lib.hid (HD.out.below_ hb2); have hc0 := HD2.out.op0; have hc33 := HD2.out.op33; have hm0 := HD2.out.m0; have hm1 := HD2.out.m1; clear hb2)
    | (with_reducible refine at_dst 51 ?_; refine wpList_load_cells rfl 58 _ rfl w.heap.size 0 [.int .i64 s, .slice A l.length c] rfl _ Try.underlying58 rfl (size58' _ _) (fun j u hu => by rw [Nat.zero_add, HD2.out.m.cell, List.getElem?_toArray]; exact hu) ?_)
    | (with_reducible refine at_store 58 4 ?_; refine wpList_store_blk rfl 58 _ _ rfl (w.heap.size + 1 + 1) 0 58 [.int .i64 0, .slice none 0 0] [.int .i64 s, .slice A l.length c] HD2.out.res rfl rfl (size58' _ _) (by simp) (by simp [Value.oneCell']) ?_; intro w9 hn9 hg9 _; have hr0 := hn9.cell 0; have hr1 := hn9.cell 1; simp only [List.getElem?_toArray, List.take_zero, List.nil_append, List.length_cons, List.length_nil, Nat.zero_add, List.drop_succ_cons, List.drop_zero, List.append_nil, List.cons_append, List.getElem?_cons_succ, List.getElem?_cons_zero] at hr0 hr1; have HG9 := Lib.hid hg9; clear hn9 hg9)
    )
  refine bodyPost_ret (v := .tuple #[.agg #[.int .i64 s, .slice A l.length c], .int .i64 7, .slice none 0 0, .slice none 0 0]) (by simp [results, Try.results33, go_sem, hr0, hr1]) rfl ?_
  refine mpost_same HD2.out HG9.out hlc ?_
  rw [stepW, if_pos HK.out]
  simp [offL, offE, HN.out, HH.out]

set_option maxRecDepth 20000 in
set_option maxHeartbeats 2000000 in
theorem do_1a (g c : Nat) (A : Option Addr) (s : Int) (l : List Ofr) (o : Op') (ix : Int) (w : World) (hr : Rd w g 34 A l.length (l.flatMap ofrc)) (hl : l.length ≤ 1000) (hlc : l.length ≤ c) (hok : OkL l) (HIX : Hid (idxI (isId o.id) l 0 = ix)) (HK : Hid (knd o = 1)) (HN : Hid (l.find? (isId o.id) = none)) (h0 : ix < 0) :
    Calls Try.prog 33 #[.agg #[.int .i64 s, .slice A l.length c], .agg (opc o).toArray] w (MPost w g (stepW s l o)) := by
  have hkl := o.kind.toNat_lt
  obtain ⟨i0, hi0, hz0, hz1, hz2⟩ := info_parts info72
  have hb3 : Below w.heap.size w (((w.alloc (.cells #[.int .i64 s, .slice A l.length c] 58)).alloc (.cells (opc o).toArray 51)).alloc (.cells #[.int .i64 0, .slice none 0 0] 58)) := ((bnew w _).trans' (bnew _ _)).trans' (bnew _ _)
  have HR := Lib.hid (hr.below hb3)
  have hgl : g < w.heap.size ∨ l = [] := by
    rcases Nat.eq_zero_or_pos l.length with h0 | h0
    · exact .inr (List.eq_nil_of_length_eq_zero h0)
    · exact .inl (hr.2 h0).1
  have HGL := Lib.hid hgl
  have HB := Lib.hid hb3
  have hm := ((Blk.new w 58 #[.int .i64 s, .slice A l.length c]).alloc (.cells (opc o).toArray 51)).alloc (.cells #[.int .i64 0, .slice none 0 0] 58)
  have HM := Lib.hid hm
  have hop : Blk (((w.alloc (.cells #[.int .i64 s, .slice A l.length c] 58)).alloc (.cells (opc o).toArray 51)).alloc (.cells #[.int .i64 0, .slice none 0 0] 58)) (w.heap.size + 1) 51 (opc o).toArray := by simpa using ((Blk.new (w.alloc (.cells #[.int .i64 s, .slice A l.length c] 58)) 51 (opc o).toArray).alloc (.cells #[.int .i64 0, .slice none 0 0] 58))
  have HOP := Lib.hid hop
  have hrs : Blk (((w.alloc (.cells #[.int .i64 s, .slice A l.length c] 58)).alloc (.cells (opc o).toArray 51)).alloc (.cells #[.int .i64 0, .slice none 0 0] 58)) (w.heap.size + 2) 58 #[.int .i64 0, .slice none 0 0] := by simpa using (Blk.new ((w.alloc (.cells #[.int .i64 s, .slice A l.length c] 58)).alloc (.cells (opc o).toArray 51)) 58 #[.int .i64 0, .slice none 0 0])
  have HRS := Lib.hid hrs
  have m0 := hm.cell 0
  have m1 := hm.cell 1
  simp only [List.getElem?_toArray, List.getElem?_cons_succ, List.getElem?_cons_zero] at m0 m1
  have hlt := hm.lt
  have hsz3 : w.heap.size + 3 = (((w.alloc (.cells #[.int .i64 s, .slice A l.length c] 58)).alloc (.cells (opc o).toArray 51)).alloc (.cells #[.int .i64 0, .slice none 0 0] 58)).heap.size := by simp
  have HSZ := Lib.hid hsz3
  have HLT := Lib.hid hlt
  have M0 := Lib.hid m0
  have M1 := Lib.hid m1
  have HOK := Lib.hid hok
  clear hr hb3 hm m0 m1 hlt hsz3 hgl hok hop hrs
  go_enter Try.func33, Try.ntmps33
  go_wp2_with fail
  refine wp_region_seq (nt := 166) (by kernel_rfl) [0,1,2,3,4,5,6,7] [8] Rb Rb.refl Rb.trans [(2, fun v w' => ∃ g0, v = .slice (some ⟨g0, 0, none⟩) 0 0 ∧ w'.ownsRow (w.heap.size + 3) 72 34 v 0 []), (5, fun v w' => w'.ownsRow (w.heap.size + 3) 72 34 v l.length (l.flatMap ofrc)), (7, fun v w' => ∃ k, v = .pointer (some ⟨k, 0, none⟩) ∧ w.heap.size + 3 ≤ k ∧ Blk w' k 58 #[.int .i64 0, .slice none 0 0])] (by kernel_rfl) (by simp) rfl (by kernel_rfl) (by simp) ?_ ?_
  · refine ⟨fun v w w' _ h2 ⟨g0, h, h'⟩ => ⟨g0, h, below_kept h' h2⟩, fun v w w' _ h2 h => below_kept h h2, fun v w w' _ h2 h => ?_, trivial⟩
    obtain ⟨k, rfl, hk0, hk⟩ := h
    exact ⟨k, rfl, hk0, hk.below h2⟩
  (refine' Sq.det (E := _) (b := _) (by rfl) (by rfl) (by rfl) (fun w' hR hf => ?_) ?_ ?_; rotate_left 2; (· (go_simp; first | done | with_reducible rfl)); (· (simp only [Act.put, List.setIfInBounds_toArray, List.set_cons_zero, List.set_cons_succ]; first | done | rfl)))
  (refine' Sq.det (E := _) (b := _) (by rfl) (by rfl) (by rfl) (fun w' hR hf => ?_) ?_ ?_; rotate_left 2; (· (have hc : w'.cell? ⟨w.heap.size, 0, none⟩ = some (.int .i64 s) := ((below_undrew hR).cell (p := ⟨w.heap.size, 0, none⟩) HLT.out).trans M0.out; go_simp; first | done | with_reducible rfl)); (· (simp only [Act.put, List.setIfInBounds_toArray, List.set_cons_zero, List.set_cons_succ]; first | done | rfl)))
  (refine' Sq.any (f := _) (by rfl) (by rfl) (by rfl) (fun w' hR hf => ?_) (fun v => ?_) (fun v0 => ?_); (· (refine wp_buildSlice 56 0 _ rfl 72 i0 z81 34 Try.underlying56 hi0 hz0 hz1 [] rfl (by simp [numbered]) (by simp) (by simp) ?_; exact ⟨rfl, bnew _ _, _, rfl, World.ownsRow_made w' _ 0 (Nat.le_trans (Nat.le_of_eq HSZ.out) (below_undrew hR).size) (Nat.zero_le _) rfl⟩)); rotate_left 1; (· (simp only [Act.put, List.setIfInBounds_toArray, List.set_cons_zero, List.set_cons_succ]; first | done | rfl)))
  (refine' Sq.det (E := _) (b := _) (by rfl) (by rfl) (by rfl) (fun w' hR hf => ?_) ?_ ?_; rotate_left 2; (· (go_simp; first | done | with_reducible rfl)); (· (simp only [Act.put, List.setIfInBounds_toArray, List.set_cons_zero, List.set_cons_succ]; first | done | rfl)))
  (refine' Sq.det (E := _) (b := _) (by rfl) (by rfl) (by rfl) (fun w' hR hf => ?_) ?_ ?_; rotate_left 2; (· (have hc : w'.cell? ⟨w.heap.size, 1, none⟩ = some (.slice A l.length c) := ((below_undrew hR).cell (p := ⟨w.heap.size, 1, none⟩) HLT.out).trans M1.out; go_simp; first | done | with_reducible rfl)); (· (simp only [Act.put, List.setIfInBounds_toArray, List.set_cons_zero, List.set_cons_succ]; first | done | rfl)))
  (refine' Sq.any (f := _) (by rfl) (by rfl) (by rfl) (fun w' hR hf => ?_) (fun v => ?_) (fun v5 => ?_); (· (obtain ⟨g0, hv0, hv⟩ : ∃ g0, v0 = .slice (some ⟨g0, 0, none⟩) 0 0 ∧ w'.ownsRow (w.heap.size + 3) 72 34 v0 0 [] := hf 2 (by decide) _ rfl; subst hv0; refine wp_app_zero _ _ 56 rfl (w.heap.size + 3) 72 i0 z81 34 48 Try.underlying56 hi0 hz0 hz1 hz2 z81_size (by omega) g0 (by kernel_rfl) hv g A l.length c (l.flatMap ofrc) (by kernel_rfl) (HR.out.below (below_undrew hR)) (by simp only [maxLen]; omega) (by omega) (Nat.le_trans (Nat.le_of_eq HSZ.out) (below_undrew hR).size) ?_; intro v' w1 ho1 hg1; exact ⟨rfl, hg1, ho1⟩)); rotate_left 1; (· (simp only [Act.put, List.setIfInBounds_toArray, List.set_cons_zero, List.set_cons_succ]; first | done | rfl)))
  (refine' Sq.det (E := _) (b := _) (by rfl) (by rfl) (by rfl) (fun w' hR hf => ?_) ?_ ?_; rotate_left 2; (· (have hv : w'.ownsRow (w.heap.size + 3) 72 34 v5 l.length (l.flatMap ofrc) := hf 5 (by decide) _ rfl; exact exec_build58 _ _ s v5 (by kernel_rfl) (by kernel_rfl) (own_slice' hv))); (· (simp only [Act.put, List.setIfInBounds_toArray, List.set_cons_zero, List.set_cons_succ]; first | done | rfl)))
  (refine' Sq.any (f := _) (by rfl) (by rfl) (by rfl) (fun w' hR hf => ?_) (fun v => ?_) (fun v7 => ?_); (· (refine wp_alloc_blk 58 rfl z58 [.int .i64 0, .slice none 0 0] rfl info58z ?_; intro w1 hk1 hk2; exact ⟨rfl, hk2, _, rfl, Nat.le_trans (Nat.le_of_eq HSZ.out) (below_undrew hR).size, hk1⟩)); rotate_left 1; (· (simp only [Act.put, List.setIfInBounds_toArray, List.set_cons_zero, List.set_cons_succ]; first | done | rfl)))
  refine Sq.tail1 (by rfl) fun wq hR hps => ?_
  have h5 : wq.ownsRow (w.heap.size + 3) 72 34 v5 l.length (l.flatMap ofrc) := hps 5 (by decide) _ rfl
  obtain ⟨bn, hbn, hb3, hblk⟩ : ∃ k, v7 = .pointer (some ⟨k, 0, none⟩) ∧ w.heap.size + 3 ≤ k ∧ Blk wq k 58 #[.int .i64 0, .slice none 0 0] := hps 7 (by decide) _ rfl
  subst hbn
  clear hps
  have hR' := below_undrew hR
  refine wpList_store_blk rfl 58 _ _ rfl bn 0 58 [.int .i64 0, .slice none 0 0] [.int .i64 s, v5] hblk (by kernel_rfl) (by kernel_rfl) (size58' _ _) (by simp) (by obtain ⟨A, n, c, rfl⟩ := own_slice' h5; simp [Value.oneCell']) ?_
  intro w1 hn1 hg1 hz1'
  have hne := own_blk_ne h5 hblk (by decide)
  have hrd : Rd w1 g 34 A l.length (l.flatMap ofrc) := by
    rcases HGL.out with h | h
    · exact (HR.out.below hR').grown hg1 (by simp; omega)
    · subst h; exact Rd.nil _ _ _ _
  have hdv : DoVars w w.heap.size s A c l g o s v5 l bn w1 :=
    ⟨(HM.out.below hR').grown hg1 (by simp; omega), (HOP.out.below hR').grown hg1 (by simp; omega), (HRS.out.below hR').grown hg1 (by simp; omega), hn1, h5.kept hg1 (.inr hne), hrd, hb3, HGL.out, (HB.out.trans (hR'.mono HB.out.size)).grown hg1 (Nat.le_trans HB.out.size hR'.size) (fun x hx => by simp at hx; omega)⟩
  have HD := Lib.hid hdv
  obtain ⟨A5, n5, c5, rfl⟩ := own_slice' h5
  clear hdv hrd hne hn1 hg1 hz1' hR' hblk h5 hR HR HB HM HOP HRS HSZ HLT M0 M1 HGL
  have hrm := rem5 o.kind.toNat (by omega) 1 HK.out
  go_wp2_with (first
    | (with_reducible refine at_dst 19 ?_; refine wpList_load_cells rfl 58 _ rfl w.heap.size 0 [.int .i64 s, .slice A l.length c] rfl _ Try.underlying58 rfl (size58' _ _) (fun j u hu => by rw [Nat.zero_add, HD.out.m.cell, List.getElem?_toArray]; exact hu) ?_)
    | (with_reducible refine at_dst 21 ?_; refine wpList_load_cells rfl 37 _ rfl (w.heap.size + 1) 1 (idc o.id) rfl _ Try.underlying37 rfl (sz_id _) (fun j u hu => ?_) ?_; (have hj : j < 32 := by (have := (List.getElem?_eq_some_iff.1 hu).1; rwa [idc_len] at this)); (rw [HD.out.op.cell, List.getElem?_toArray, opc_id _ j hj]; exact hu))
    | (go_at_call 30; with_reducible refine (mfind_any g c A s l o.id _ HD.out.rd (by omega)).mono ?_; rintro e w2 ⟨he, hb2⟩; rw [HIX.out] at he; subst he; have HD2 := Lib.hid (HD.out.below_ hb2); have hc0 := HD2.out.op0; have hc33 := HD2.out.op33; have hm0 := HD2.out.m0; have hm1 := HD2.out.m1; clear hb2)
    | (with_reducible refine at_dst 73 ?_; refine wpList_load_cells rfl 58 _ rfl w.heap.size 0 [.int .i64 s, .slice A l.length c] rfl _ Try.underlying58 rfl (size58' _ _) (fun j u hu => by rw [Nat.zero_add, HD2.out.m.cell, List.getElem?_toArray]; exact hu) ?_)
    | (with_reducible refine at_store 58 4 ?_; refine wpList_store_blk rfl 58 _ _ rfl (w.heap.size + 1 + 1) 0 58 [.int .i64 0, .slice none 0 0] [.int .i64 s, .slice A l.length c] HD2.out.res rfl rfl (size58' _ _) (by simp) (by simp [Value.oneCell']) ?_; intro w9 hn9 hg9 _; have hr0 := hn9.cell 0; have hr1 := hn9.cell 1; simp only [List.getElem?_toArray, List.take_zero, List.nil_append, List.length_cons, List.length_nil, Nat.zero_add, List.drop_succ_cons, List.drop_zero, List.append_nil, List.cons_append, List.getElem?_cons_succ, List.getElem?_cons_zero] at hr0 hr1; have HG9 := Lib.hid hg9; clear hn9 hg9)
    )
  refine bodyPost_ret (v := .tuple #[.agg #[.int .i64 s, .slice A l.length c], .int .i64 8, .slice none 0 0, .slice none 0 0]) (by simp [results, Try.results33, go_sem, hr0, hr1]) rfl ?_
  refine mpost_same HD2.out HG9.out hlc ?_
  rw [stepW, if_neg (by rw [HK.out]; decide), if_pos HK.out]
  simp [ansL, ansE, HN.out]

set_option maxRecDepth 20000 in
set_option maxHeartbeats 2000000 in
theorem do_1b (g c : Nat) (A : Option Addr) (s : Int) (l : List Ofr) (o : Op') (ix : Int) (w : World) (hr : Rd w g 34 A l.length (l.flatMap ofrc)) (hl : l.length ≤ 1000) (hlc : l.length ≤ c) (hok : OkL l) (HIX : Hid (idxI (isId o.id) l 0 = ix)) (HK : Hid (knd o = 1)) (x : Ofr) (HN : Hid (l.find? (isId o.id) = some x)) (h0 : 0 ≤ ix) (HO : Hid (o.n < 1 ∨ 5 < o.n)) :
    Calls Try.prog 33 #[.agg #[.int .i64 s, .slice A l.length c], .agg (opc o).toArray] w (MPost w g (stepW s l o)) := by
  have hkl := o.kind.toNat_lt
  obtain ⟨i0, hi0, hz0, hz1, hz2⟩ := info_parts info72
  have hb3 : Below w.heap.size w (((w.alloc (.cells #[.int .i64 s, .slice A l.length c] 58)).alloc (.cells (opc o).toArray 51)).alloc (.cells #[.int .i64 0, .slice none 0 0] 58)) := ((bnew w _).trans' (bnew _ _)).trans' (bnew _ _)
  have HR := Lib.hid (hr.below hb3)
  have hgl : g < w.heap.size ∨ l = [] := by
    rcases Nat.eq_zero_or_pos l.length with h0 | h0
    · exact .inr (List.eq_nil_of_length_eq_zero h0)
    · exact .inl (hr.2 h0).1
  have HGL := Lib.hid hgl
  have HB := Lib.hid hb3
  have hm := ((Blk.new w 58 #[.int .i64 s, .slice A l.length c]).alloc (.cells (opc o).toArray 51)).alloc (.cells #[.int .i64 0, .slice none 0 0] 58)
  have HM := Lib.hid hm
  have hop : Blk (((w.alloc (.cells #[.int .i64 s, .slice A l.length c] 58)).alloc (.cells (opc o).toArray 51)).alloc (.cells #[.int .i64 0, .slice none 0 0] 58)) (w.heap.size + 1) 51 (opc o).toArray := by simpa using ((Blk.new (w.alloc (.cells #[.int .i64 s, .slice A l.length c] 58)) 51 (opc o).toArray).alloc (.cells #[.int .i64 0, .slice none 0 0] 58))
  have HOP := Lib.hid hop
  have hrs : Blk (((w.alloc (.cells #[.int .i64 s, .slice A l.length c] 58)).alloc (.cells (opc o).toArray 51)).alloc (.cells #[.int .i64 0, .slice none 0 0] 58)) (w.heap.size + 2) 58 #[.int .i64 0, .slice none 0 0] := by simpa using (Blk.new ((w.alloc (.cells #[.int .i64 s, .slice A l.length c] 58)).alloc (.cells (opc o).toArray 51)) 58 #[.int .i64 0, .slice none 0 0])
  have HRS := Lib.hid hrs
  have m0 := hm.cell 0
  have m1 := hm.cell 1
  simp only [List.getElem?_toArray, List.getElem?_cons_succ, List.getElem?_cons_zero] at m0 m1
  have hlt := hm.lt
  have hsz3 : w.heap.size + 3 = (((w.alloc (.cells #[.int .i64 s, .slice A l.length c] 58)).alloc (.cells (opc o).toArray 51)).alloc (.cells #[.int .i64 0, .slice none 0 0] 58)).heap.size := by simp
  have HSZ := Lib.hid hsz3
  have HLT := Lib.hid hlt
  have M0 := Lib.hid m0
  have M1 := Lib.hid m1
  have HOK := Lib.hid hok
  clear hr hb3 hm m0 m1 hlt hsz3 hgl hok hop hrs
  go_enter Try.func33, Try.ntmps33
  go_wp2_with fail
  refine wp_region_seq (nt := 166) (by kernel_rfl) [0,1,2,3,4,5,6,7] [8] Rb Rb.refl Rb.trans [(2, fun v w' => ∃ g0, v = .slice (some ⟨g0, 0, none⟩) 0 0 ∧ w'.ownsRow (w.heap.size + 3) 72 34 v 0 []), (5, fun v w' => w'.ownsRow (w.heap.size + 3) 72 34 v l.length (l.flatMap ofrc)), (7, fun v w' => ∃ k, v = .pointer (some ⟨k, 0, none⟩) ∧ w.heap.size + 3 ≤ k ∧ Blk w' k 58 #[.int .i64 0, .slice none 0 0])] (by kernel_rfl) (by simp) rfl (by kernel_rfl) (by simp) ?_ ?_
  · refine ⟨fun v w w' _ h2 ⟨g0, h, h'⟩ => ⟨g0, h, below_kept h' h2⟩, fun v w w' _ h2 h => below_kept h h2, fun v w w' _ h2 h => ?_, trivial⟩
    obtain ⟨k, rfl, hk0, hk⟩ := h
    exact ⟨k, rfl, hk0, hk.below h2⟩
  (refine' Sq.det (E := _) (b := _) (by rfl) (by rfl) (by rfl) (fun w' hR hf => ?_) ?_ ?_; rotate_left 2; (· (go_simp; first | done | with_reducible rfl)); (· (simp only [Act.put, List.setIfInBounds_toArray, List.set_cons_zero, List.set_cons_succ]; first | done | rfl)))
  (refine' Sq.det (E := _) (b := _) (by rfl) (by rfl) (by rfl) (fun w' hR hf => ?_) ?_ ?_; rotate_left 2; (· (have hc : w'.cell? ⟨w.heap.size, 0, none⟩ = some (.int .i64 s) := ((below_undrew hR).cell (p := ⟨w.heap.size, 0, none⟩) HLT.out).trans M0.out; go_simp; first | done | with_reducible rfl)); (· (simp only [Act.put, List.setIfInBounds_toArray, List.set_cons_zero, List.set_cons_succ]; first | done | rfl)))
  (refine' Sq.any (f := _) (by rfl) (by rfl) (by rfl) (fun w' hR hf => ?_) (fun v => ?_) (fun v0 => ?_); (· (refine wp_buildSlice 56 0 _ rfl 72 i0 z81 34 Try.underlying56 hi0 hz0 hz1 [] rfl (by simp [numbered]) (by simp) (by simp) ?_; exact ⟨rfl, bnew _ _, _, rfl, World.ownsRow_made w' _ 0 (Nat.le_trans (Nat.le_of_eq HSZ.out) (below_undrew hR).size) (Nat.zero_le _) rfl⟩)); rotate_left 1; (· (simp only [Act.put, List.setIfInBounds_toArray, List.set_cons_zero, List.set_cons_succ]; first | done | rfl)))
  (refine' Sq.det (E := _) (b := _) (by rfl) (by rfl) (by rfl) (fun w' hR hf => ?_) ?_ ?_; rotate_left 2; (· (go_simp; first | done | with_reducible rfl)); (· (simp only [Act.put, List.setIfInBounds_toArray, List.set_cons_zero, List.set_cons_succ]; first | done | rfl)))
  (refine' Sq.det (E := _) (b := _) (by rfl) (by rfl) (by rfl) (fun w' hR hf => ?_) ?_ ?_; rotate_left 2; (· (have hc : w'.cell? ⟨w.heap.size, 1, none⟩ = some (.slice A l.length c) := ((below_undrew hR).cell (p := ⟨w.heap.size, 1, none⟩) HLT.out).trans M1.out; go_simp; first | done | with_reducible rfl)); (· (simp only [Act.put, List.setIfInBounds_toArray, List.set_cons_zero, List.set_cons_succ]; first | done | rfl)))
  (refine' Sq.any (f := _) (by rfl) (by rfl) (by rfl) (fun w' hR hf => ?_) (fun v => ?_) (fun v5 => ?_); (· (obtain ⟨g0, hv0, hv⟩ : ∃ g0, v0 = .slice (some ⟨g0, 0, none⟩) 0 0 ∧ w'.ownsRow (w.heap.size + 3) 72 34 v0 0 [] := hf 2 (by decide) _ rfl; subst hv0; refine wp_app_zero _ _ 56 rfl (w.heap.size + 3) 72 i0 z81 34 48 Try.underlying56 hi0 hz0 hz1 hz2 z81_size (by omega) g0 (by kernel_rfl) hv g A l.length c (l.flatMap ofrc) (by kernel_rfl) (HR.out.below (below_undrew hR)) (by simp only [maxLen]; omega) (by omega) (Nat.le_trans (Nat.le_of_eq HSZ.out) (below_undrew hR).size) ?_; intro v' w1 ho1 hg1; exact ⟨rfl, hg1, ho1⟩)); rotate_left 1; (· (simp only [Act.put, List.setIfInBounds_toArray, List.set_cons_zero, List.set_cons_succ]; first | done | rfl)))
  (refine' Sq.det (E := _) (b := _) (by rfl) (by rfl) (by rfl) (fun w' hR hf => ?_) ?_ ?_; rotate_left 2; (· (have hv : w'.ownsRow (w.heap.size + 3) 72 34 v5 l.length (l.flatMap ofrc) := hf 5 (by decide) _ rfl; exact exec_build58 _ _ s v5 (by kernel_rfl) (by kernel_rfl) (own_slice' hv))); (· (simp only [Act.put, List.setIfInBounds_toArray, List.set_cons_zero, List.set_cons_succ]; first | done | rfl)))
  (refine' Sq.any (f := _) (by rfl) (by rfl) (by rfl) (fun w' hR hf => ?_) (fun v => ?_) (fun v7 => ?_); (· (refine wp_alloc_blk 58 rfl z58 [.int .i64 0, .slice none 0 0] rfl info58z ?_; intro w1 hk1 hk2; exact ⟨rfl, hk2, _, rfl, Nat.le_trans (Nat.le_of_eq HSZ.out) (below_undrew hR).size, hk1⟩)); rotate_left 1; (· (simp only [Act.put, List.setIfInBounds_toArray, List.set_cons_zero, List.set_cons_succ]; first | done | rfl)))
  refine Sq.tail1 (by rfl) fun wq hR hps => ?_
  have h5 : wq.ownsRow (w.heap.size + 3) 72 34 v5 l.length (l.flatMap ofrc) := hps 5 (by decide) _ rfl
  obtain ⟨bn, hbn, hb3, hblk⟩ : ∃ k, v7 = .pointer (some ⟨k, 0, none⟩) ∧ w.heap.size + 3 ≤ k ∧ Blk wq k 58 #[.int .i64 0, .slice none 0 0] := hps 7 (by decide) _ rfl
  subst hbn
  clear hps
  have hR' := below_undrew hR
  refine wpList_store_blk rfl 58 _ _ rfl bn 0 58 [.int .i64 0, .slice none 0 0] [.int .i64 s, v5] hblk (by kernel_rfl) (by kernel_rfl) (size58' _ _) (by simp) (by obtain ⟨A, n, c, rfl⟩ := own_slice' h5; simp [Value.oneCell']) ?_
  intro w1 hn1 hg1 hz1'
  have hne := own_blk_ne h5 hblk (by decide)
  have hrd : Rd w1 g 34 A l.length (l.flatMap ofrc) := by
    rcases HGL.out with h | h
    · exact (HR.out.below hR').grown hg1 (by simp; omega)
    · subst h; exact Rd.nil _ _ _ _
  have hdv : DoVars w w.heap.size s A c l g o s v5 l bn w1 :=
    ⟨(HM.out.below hR').grown hg1 (by simp; omega), (HOP.out.below hR').grown hg1 (by simp; omega), (HRS.out.below hR').grown hg1 (by simp; omega), hn1, h5.kept hg1 (.inr hne), hrd, hb3, HGL.out, (HB.out.trans (hR'.mono HB.out.size)).grown hg1 (Nat.le_trans HB.out.size hR'.size) (fun x hx => by simp at hx; omega)⟩
  have HD := Lib.hid hdv
  obtain ⟨A5, n5, c5, rfl⟩ := own_slice' h5
  clear hdv hrd hne hn1 hg1 hz1' hR' hblk h5 hR HR HB HM HOP HRS HSZ HLT M0 M1 HGL
  have hrm := rem5 o.kind.toNat (by omega) 1 HK.out
  by_cases h1 : o.n < 1
  · go_wp2_with (first
      | (with_reducible refine at_dst 19 ?_; refine wpList_load_cells rfl 58 _ rfl w.heap.size 0 [.int .i64 s, .slice A l.length c] rfl _ Try.underlying58 rfl (size58' _ _) (fun j u hu => by rw [Nat.zero_add, HD.out.m.cell, List.getElem?_toArray]; exact hu) ?_)
      | (with_reducible refine at_dst 21 ?_; refine wpList_load_cells rfl 37 _ rfl (w.heap.size + 1) 1 (idc o.id) rfl _ Try.underlying37 rfl (sz_id _) (fun j u hu => ?_) ?_; (have hj : j < 32 := by (have := (List.getElem?_eq_some_iff.1 hu).1; rwa [idc_len] at this)); (rw [HD.out.op.cell, List.getElem?_toArray, opc_id _ j hj]; exact hu))
      | (go_at_call 30; with_reducible refine (mfind_any g c A s l o.id _ HD.out.rd (by omega)).mono ?_; rintro e w2 ⟨he, hb2⟩; rw [HIX.out] at he; subst he; have HD2 := Lib.hid (HD.out.below_ hb2); have hc0 := HD2.out.op0; have hc33 := HD2.out.op33; have hm0 := HD2.out.m0; have hm1 := HD2.out.m1; clear hb2)
      | (with_reducible refine at_dst 82 ?_; refine wpList_load_cells rfl 58 _ rfl w.heap.size 0 [.int .i64 s, .slice A l.length c] rfl _ Try.underlying58 rfl (size58' _ _) (fun j u hu => by rw [Nat.zero_add, HD2.out.m.cell, List.getElem?_toArray]; exact hu) ?_)
      | (with_reducible refine at_store 58 4 ?_; refine wpList_store_blk rfl 58 _ _ rfl (w.heap.size + 1 + 1) 0 58 [.int .i64 0, .slice none 0 0] [.int .i64 s, .slice A l.length c] HD2.out.res rfl rfl (size58' _ _) (by simp) (by simp [Value.oneCell']) ?_; intro w9 hn9 hg9 _; have hr0 := hn9.cell 0; have hr1 := hn9.cell 1; simp only [List.getElem?_toArray, List.take_zero, List.nil_append, List.length_cons, List.length_nil, Nat.zero_add, List.drop_succ_cons, List.drop_zero, List.append_nil, List.cons_append, List.getElem?_cons_succ, List.getElem?_cons_zero] at hr0 hr1; have HG9 := Lib.hid hg9; clear hn9 hg9)
      )
    refine bodyPost_ret (v := .tuple #[.agg #[.int .i64 s, .slice A l.length c], .int .i64 11, .slice none 0 0, .slice none 0 0]) (by simp [results, Try.results33, go_sem, hr0, hr1]) rfl ?_
    refine mpost_same HD2.out HG9.out hlc ?_
    rw [stepW, if_neg (by rw [HK.out]; decide), if_pos HK.out]
    simp [ansL, ansE, HN.out, HO.out]
  · have h2 : 5 < o.n := by have := HO.out; omega
    go_wp2_with (first
      | (with_reducible refine at_dst 19 ?_; refine wpList_load_cells rfl 58 _ rfl w.heap.size 0 [.int .i64 s, .slice A l.length c] rfl _ Try.underlying58 rfl (size58' _ _) (fun j u hu => by rw [Nat.zero_add, HD.out.m.cell, List.getElem?_toArray]; exact hu) ?_)
      | (with_reducible refine at_dst 21 ?_; refine wpList_load_cells rfl 37 _ rfl (w.heap.size + 1) 1 (idc o.id) rfl _ Try.underlying37 rfl (sz_id _) (fun j u hu => ?_) ?_; (have hj : j < 32 := by (have := (List.getElem?_eq_some_iff.1 hu).1; rwa [idc_len] at this)); (rw [HD.out.op.cell, List.getElem?_toArray, opc_id _ j hj]; exact hu))
      | (go_at_call 30; with_reducible refine (mfind_any g c A s l o.id _ HD.out.rd (by omega)).mono ?_; rintro e w2 ⟨he, hb2⟩; rw [HIX.out] at he; subst he; have HD2 := Lib.hid (HD.out.below_ hb2); have hc0 := HD2.out.op0; have hc33 := HD2.out.op33; have hm0 := HD2.out.m0; have hm1 := HD2.out.m1; clear hb2)
      | (with_reducible refine at_dst 82 ?_; refine wpList_load_cells rfl 58 _ rfl w.heap.size 0 [.int .i64 s, .slice A l.length c] rfl _ Try.underlying58 rfl (size58' _ _) (fun j u hu => by rw [Nat.zero_add, HD2.out.m.cell, List.getElem?_toArray]; exact hu) ?_)
      | (with_reducible refine at_store 58 4 ?_; refine wpList_store_blk rfl 58 _ _ rfl (w.heap.size + 1 + 1) 0 58 [.int .i64 0, .slice none 0 0] [.int .i64 s, .slice A l.length c] HD2.out.res rfl rfl (size58' _ _) (by simp) (by simp [Value.oneCell']) ?_; intro w9 hn9 hg9 _; have hr0 := hn9.cell 0; have hr1 := hn9.cell 1; simp only [List.getElem?_toArray, List.take_zero, List.nil_append, List.length_cons, List.length_nil, Nat.zero_add, List.drop_succ_cons, List.drop_zero, List.append_nil, List.cons_append, List.getElem?_cons_succ, List.getElem?_cons_zero] at hr0 hr1; have HG9 := Lib.hid hg9; clear hn9 hg9)
      )
    refine bodyPost_ret (v := .tuple #[.agg #[.int .i64 s, .slice A l.length c], .int .i64 11, .slice none 0 0, .slice none 0 0]) (by simp [results, Try.results33, go_sem, hr0, hr1]) rfl ?_
    refine mpost_same HD2.out HG9.out hlc ?_
    rw [stepW, if_neg (by rw [HK.out]; decide), if_pos HK.out]
    simp [ansL, ansE, HN.out, HO.out]

set_option maxRecDepth 20000 in
set_option maxHeartbeats 2000000 in
theorem do_4a (g c : Nat) (A : Option Addr) (s : Int) (l : List Ofr) (o : Op') (ix : Int) (w : World) (hr : Rd w g 34 A l.length (l.flatMap ofrc)) (hl : l.length ≤ 1000) (hlc : l.length ≤ c) (hok : OkL l) (HIX : Hid (idxI (isId o.id) l 0 = ix)) (HK : Hid (knd o = 4)) (HN : Hid (validB o.n = false)) :
    Calls Try.prog 33 #[.agg #[.int .i64 s, .slice A l.length c], .agg (opc o).toArray] w (MPost w g (stepW s l o)) := by
  have hkl := o.kind.toNat_lt
  obtain ⟨i0, hi0, hz0, hz1, hz2⟩ := info_parts info72
  have hb3 : Below w.heap.size w (((w.alloc (.cells #[.int .i64 s, .slice A l.length c] 58)).alloc (.cells (opc o).toArray 51)).alloc (.cells #[.int .i64 0, .slice none 0 0] 58)) := ((bnew w _).trans' (bnew _ _)).trans' (bnew _ _)
  have HR := Lib.hid (hr.below hb3)
  have hgl : g < w.heap.size ∨ l = [] := by
    rcases Nat.eq_zero_or_pos l.length with h0 | h0
    · exact .inr (List.eq_nil_of_length_eq_zero h0)
    · exact .inl (hr.2 h0).1
  have HGL := Lib.hid hgl
  have HB := Lib.hid hb3
  have hm := ((Blk.new w 58 #[.int .i64 s, .slice A l.length c]).alloc (.cells (opc o).toArray 51)).alloc (.cells #[.int .i64 0, .slice none 0 0] 58)
  have HM := Lib.hid hm
  have hop : Blk (((w.alloc (.cells #[.int .i64 s, .slice A l.length c] 58)).alloc (.cells (opc o).toArray 51)).alloc (.cells #[.int .i64 0, .slice none 0 0] 58)) (w.heap.size + 1) 51 (opc o).toArray := by simpa using ((Blk.new (w.alloc (.cells #[.int .i64 s, .slice A l.length c] 58)) 51 (opc o).toArray).alloc (.cells #[.int .i64 0, .slice none 0 0] 58))
  have HOP := Lib.hid hop
  have hrs : Blk (((w.alloc (.cells #[.int .i64 s, .slice A l.length c] 58)).alloc (.cells (opc o).toArray 51)).alloc (.cells #[.int .i64 0, .slice none 0 0] 58)) (w.heap.size + 2) 58 #[.int .i64 0, .slice none 0 0] := by simpa using (Blk.new ((w.alloc (.cells #[.int .i64 s, .slice A l.length c] 58)).alloc (.cells (opc o).toArray 51)) 58 #[.int .i64 0, .slice none 0 0])
  have HRS := Lib.hid hrs
  have m0 := hm.cell 0
  have m1 := hm.cell 1
  simp only [List.getElem?_toArray, List.getElem?_cons_succ, List.getElem?_cons_zero] at m0 m1
  have hlt := hm.lt
  have hsz3 : w.heap.size + 3 = (((w.alloc (.cells #[.int .i64 s, .slice A l.length c] 58)).alloc (.cells (opc o).toArray 51)).alloc (.cells #[.int .i64 0, .slice none 0 0] 58)).heap.size := by simp
  have HSZ := Lib.hid hsz3
  have HLT := Lib.hid hlt
  have M0 := Lib.hid m0
  have M1 := Lib.hid m1
  have HOK := Lib.hid hok
  clear hr hb3 hm m0 m1 hlt hsz3 hgl hok hop hrs
  go_enter Try.func33, Try.ntmps33
  go_wp2_with fail
  refine wp_region_seq (nt := 166) (by kernel_rfl) [0,1,2,3,4,5,6,7] [8] Rb Rb.refl Rb.trans [(2, fun v w' => ∃ g0, v = .slice (some ⟨g0, 0, none⟩) 0 0 ∧ w'.ownsRow (w.heap.size + 3) 72 34 v 0 []), (5, fun v w' => w'.ownsRow (w.heap.size + 3) 72 34 v l.length (l.flatMap ofrc)), (7, fun v w' => ∃ k, v = .pointer (some ⟨k, 0, none⟩) ∧ w.heap.size + 3 ≤ k ∧ Blk w' k 58 #[.int .i64 0, .slice none 0 0])] (by kernel_rfl) (by simp) rfl (by kernel_rfl) (by simp) ?_ ?_
  · refine ⟨fun v w w' _ h2 ⟨g0, h, h'⟩ => ⟨g0, h, below_kept h' h2⟩, fun v w w' _ h2 h => below_kept h h2, fun v w w' _ h2 h => ?_, trivial⟩
    obtain ⟨k, rfl, hk0, hk⟩ := h
    exact ⟨k, rfl, hk0, hk.below h2⟩
  (refine' Sq.det (E := _) (b := _) (by rfl) (by rfl) (by rfl) (fun w' hR hf => ?_) ?_ ?_; rotate_left 2; (· (go_simp; first | done | with_reducible rfl)); (· (simp only [Act.put, List.setIfInBounds_toArray, List.set_cons_zero, List.set_cons_succ]; first | done | rfl)))
  (refine' Sq.det (E := _) (b := _) (by rfl) (by rfl) (by rfl) (fun w' hR hf => ?_) ?_ ?_; rotate_left 2; (· (have hc : w'.cell? ⟨w.heap.size, 0, none⟩ = some (.int .i64 s) := ((below_undrew hR).cell (p := ⟨w.heap.size, 0, none⟩) HLT.out).trans M0.out; go_simp; first | done | with_reducible rfl)); (· (simp only [Act.put, List.setIfInBounds_toArray, List.set_cons_zero, List.set_cons_succ]; first | done | rfl)))
  (refine' Sq.any (f := _) (by rfl) (by rfl) (by rfl) (fun w' hR hf => ?_) (fun v => ?_) (fun v0 => ?_); (· (refine wp_buildSlice 56 0 _ rfl 72 i0 z81 34 Try.underlying56 hi0 hz0 hz1 [] rfl (by simp [numbered]) (by simp) (by simp) ?_; exact ⟨rfl, bnew _ _, _, rfl, World.ownsRow_made w' _ 0 (Nat.le_trans (Nat.le_of_eq HSZ.out) (below_undrew hR).size) (Nat.zero_le _) rfl⟩)); rotate_left 1; (· (simp only [Act.put, List.setIfInBounds_toArray, List.set_cons_zero, List.set_cons_succ]; first | done | rfl)))
  (refine' Sq.det (E := _) (b := _) (by rfl) (by rfl) (by rfl) (fun w' hR hf => ?_) ?_ ?_; rotate_left 2; (· (go_simp; first | done | with_reducible rfl)); (· (simp only [Act.put, List.setIfInBounds_toArray, List.set_cons_zero, List.set_cons_succ]; first | done | rfl)))
  (refine' Sq.det (E := _) (b := _) (by rfl) (by rfl) (by rfl) (fun w' hR hf => ?_) ?_ ?_; rotate_left 2; (· (have hc : w'.cell? ⟨w.heap.size, 1, none⟩ = some (.slice A l.length c) := ((below_undrew hR).cell (p := ⟨w.heap.size, 1, none⟩) HLT.out).trans M1.out; go_simp; first | done | with_reducible rfl)); (· (simp only [Act.put, List.setIfInBounds_toArray, List.set_cons_zero, List.set_cons_succ]; first | done | rfl)))
  (refine' Sq.any (f := _) (by rfl) (by rfl) (by rfl) (fun w' hR hf => ?_) (fun v => ?_) (fun v5 => ?_); (· (obtain ⟨g0, hv0, hv⟩ : ∃ g0, v0 = .slice (some ⟨g0, 0, none⟩) 0 0 ∧ w'.ownsRow (w.heap.size + 3) 72 34 v0 0 [] := hf 2 (by decide) _ rfl; subst hv0; refine wp_app_zero _ _ 56 rfl (w.heap.size + 3) 72 i0 z81 34 48 Try.underlying56 hi0 hz0 hz1 hz2 z81_size (by omega) g0 (by kernel_rfl) hv g A l.length c (l.flatMap ofrc) (by kernel_rfl) (HR.out.below (below_undrew hR)) (by simp only [maxLen]; omega) (by omega) (Nat.le_trans (Nat.le_of_eq HSZ.out) (below_undrew hR).size) ?_; intro v' w1 ho1 hg1; exact ⟨rfl, hg1, ho1⟩)); rotate_left 1; (· (simp only [Act.put, List.setIfInBounds_toArray, List.set_cons_zero, List.set_cons_succ]; first | done | rfl)))
  (refine' Sq.det (E := _) (b := _) (by rfl) (by rfl) (by rfl) (fun w' hR hf => ?_) ?_ ?_; rotate_left 2; (· (have hv : w'.ownsRow (w.heap.size + 3) 72 34 v5 l.length (l.flatMap ofrc) := hf 5 (by decide) _ rfl; exact exec_build58 _ _ s v5 (by kernel_rfl) (by kernel_rfl) (own_slice' hv))); (· (simp only [Act.put, List.setIfInBounds_toArray, List.set_cons_zero, List.set_cons_succ]; first | done | rfl)))
  (refine' Sq.any (f := _) (by rfl) (by rfl) (by rfl) (fun w' hR hf => ?_) (fun v => ?_) (fun v7 => ?_); (· (refine wp_alloc_blk 58 rfl z58 [.int .i64 0, .slice none 0 0] rfl info58z ?_; intro w1 hk1 hk2; exact ⟨rfl, hk2, _, rfl, Nat.le_trans (Nat.le_of_eq HSZ.out) (below_undrew hR).size, hk1⟩)); rotate_left 1; (· (simp only [Act.put, List.setIfInBounds_toArray, List.set_cons_zero, List.set_cons_succ]; first | done | rfl)))
  refine Sq.tail1 (by rfl) fun wq hR hps => ?_
  have h5 : wq.ownsRow (w.heap.size + 3) 72 34 v5 l.length (l.flatMap ofrc) := hps 5 (by decide) _ rfl
  obtain ⟨bn, hbn, hb3, hblk⟩ : ∃ k, v7 = .pointer (some ⟨k, 0, none⟩) ∧ w.heap.size + 3 ≤ k ∧ Blk wq k 58 #[.int .i64 0, .slice none 0 0] := hps 7 (by decide) _ rfl
  subst hbn
  clear hps
  have hR' := below_undrew hR
  refine wpList_store_blk rfl 58 _ _ rfl bn 0 58 [.int .i64 0, .slice none 0 0] [.int .i64 s, v5] hblk (by kernel_rfl) (by kernel_rfl) (size58' _ _) (by simp) (by obtain ⟨A, n, c, rfl⟩ := own_slice' h5; simp [Value.oneCell']) ?_
  intro w1 hn1 hg1 hz1'
  have hne := own_blk_ne h5 hblk (by decide)
  have hrd : Rd w1 g 34 A l.length (l.flatMap ofrc) := by
    rcases HGL.out with h | h
    · exact (HR.out.below hR').grown hg1 (by simp; omega)
    · subst h; exact Rd.nil _ _ _ _
  have hdv : DoVars w w.heap.size s A c l g o s v5 l bn w1 :=
    ⟨(HM.out.below hR').grown hg1 (by simp; omega), (HOP.out.below hR').grown hg1 (by simp; omega), (HRS.out.below hR').grown hg1 (by simp; omega), hn1, h5.kept hg1 (.inr hne), hrd, hb3, HGL.out, (HB.out.trans (hR'.mono HB.out.size)).grown hg1 (Nat.le_trans HB.out.size hR'.size) (fun x hx => by simp at hx; omega)⟩
  have HD := Lib.hid hdv
  obtain ⟨A5, n5, c5, rfl⟩ := own_slice' h5
  clear hdv hrd hne hn1 hg1 hz1' hR' hblk h5 hR HR HB HM HOP HRS HSZ HLT M0 M1 HGL
  have hrm := rem5 o.kind.toNat (by omega) 4 HK.out
  have hn := HN.out
  unfold validB at hn
  by_cases h1 : o.n < 1
  · go_wp2_with (first
      | (with_reducible refine at_dst 19 ?_; refine wpList_load_cells rfl 58 _ rfl w.heap.size 0 [.int .i64 s, .slice A l.length c] rfl _ Try.underlying58 rfl (size58' _ _) (fun j u hu => by rw [Nat.zero_add, HD.out.m.cell, List.getElem?_toArray]; exact hu) ?_)
      | (with_reducible refine at_dst 21 ?_; refine wpList_load_cells rfl 37 _ rfl (w.heap.size + 1) 1 (idc o.id) rfl _ Try.underlying37 rfl (sz_id _) (fun j u hu => ?_) ?_; (have hj : j < 32 := by (have := (List.getElem?_eq_some_iff.1 hu).1; rwa [idc_len] at this)); (rw [HD.out.op.cell, List.getElem?_toArray, opc_id _ j hj]; exact hu))
      | (go_at_call 30; with_reducible refine (mfind_any g c A s l o.id _ HD.out.rd (by omega)).mono ?_; rintro e w2 ⟨he, hb2⟩; rw [HIX.out] at he; subst he; have HD2 := Lib.hid (HD.out.below_ hb2); have hc0 := HD2.out.op0; have hc33 := HD2.out.op33; have hm0 := HD2.out.m0; have hm1 := HD2.out.m1; clear hb2)
      | (with_reducible refine at_dst 34 ?_; refine wpList_load_cells rfl 58 _ rfl w.heap.size 0 [.int .i64 s, .slice A l.length c] rfl _ Try.underlying58 rfl (size58' _ _) (fun j u hu => by rw [Nat.zero_add, HD2.out.m.cell, List.getElem?_toArray]; exact hu) ?_)
      | (with_reducible refine at_store 58 4 ?_; refine wpList_store_blk rfl 58 _ _ rfl (w.heap.size + 1 + 1) 0 58 [.int .i64 0, .slice none 0 0] [.int .i64 s, .slice A l.length c] HD2.out.res rfl rfl (size58' _ _) (by simp) (by simp [Value.oneCell']) ?_; intro w9 hn9 hg9 _; have hr0 := hn9.cell 0; have hr1 := hn9.cell 1; simp only [List.getElem?_toArray, List.take_zero, List.nil_append, List.length_cons, List.length_nil, Nat.zero_add, List.drop_succ_cons, List.drop_zero, List.append_nil, List.cons_append, List.getElem?_cons_succ, List.getElem?_cons_zero] at hr0 hr1; have HG9 := Lib.hid hg9; clear hn9 hg9)
      )
    refine bodyPost_ret (v := .tuple #[.agg #[.int .i64 s, .slice A l.length c], .int .i64 2, .slice none 0 0, .slice none 0 0]) (by simp [results, Try.results33, go_sem, hr0, hr1]) rfl ?_
    refine mpost_same HD2.out HG9.out hlc ?_
    rw [stepW, if_neg (by rw [HK.out]; decide), if_neg (by rw [HK.out]; decide), if_neg (by rw [HK.out]; decide), if_neg (by rw [HK.out]; decide)]
    simp [errV, HN.out]
  · have h2 : 64 < o.n := by
      simp only [Bool.and_eq_false_iff, decide_eq_false_iff_not] at hn
      omega
    clear hn
    go_wp2_with (first
      | (with_reducible refine at_dst 19 ?_; refine wpList_load_cells rfl 58 _ rfl w.heap.size 0 [.int .i64 s, .slice A l.length c] rfl _ Try.underlying58 rfl (size58' _ _) (fun j u hu => by rw [Nat.zero_add, HD.out.m.cell, List.getElem?_toArray]; exact hu) ?_)
      | (with_reducible refine at_dst 21 ?_; refine wpList_load_cells rfl 37 _ rfl (w.heap.size + 1) 1 (idc o.id) rfl _ Try.underlying37 rfl (sz_id _) (fun j u hu => ?_) ?_; (have hj : j < 32 := by (have := (List.getElem?_eq_some_iff.1 hu).1; rwa [idc_len] at this)); (rw [HD.out.op.cell, List.getElem?_toArray, opc_id _ j hj]; exact hu))
      | (go_at_call 30; with_reducible refine (mfind_any g c A s l o.id _ HD.out.rd (by omega)).mono ?_; rintro e w2 ⟨he, hb2⟩; rw [HIX.out] at he; subst he; have HD2 := Lib.hid (HD.out.below_ hb2); have hc0 := HD2.out.op0; have hc33 := HD2.out.op33; have hm0 := HD2.out.m0; have hm1 := HD2.out.m1; clear hb2)
      | (with_reducible refine at_dst 34 ?_; refine wpList_load_cells rfl 58 _ rfl w.heap.size 0 [.int .i64 s, .slice A l.length c] rfl _ Try.underlying58 rfl (size58' _ _) (fun j u hu => by rw [Nat.zero_add, HD2.out.m.cell, List.getElem?_toArray]; exact hu) ?_)
      | (with_reducible refine at_store 58 4 ?_; refine wpList_store_blk rfl 58 _ _ rfl (w.heap.size + 1 + 1) 0 58 [.int .i64 0, .slice none 0 0] [.int .i64 s, .slice A l.length c] HD2.out.res rfl rfl (size58' _ _) (by simp) (by simp [Value.oneCell']) ?_; intro w9 hn9 hg9 _; have hr0 := hn9.cell 0; have hr1 := hn9.cell 1; simp only [List.getElem?_toArray, List.take_zero, List.nil_append, List.length_cons, List.length_nil, Nat.zero_add, List.drop_succ_cons, List.drop_zero, List.append_nil, List.cons_append, List.getElem?_cons_succ, List.getElem?_cons_zero] at hr0 hr1; have HG9 := Lib.hid hg9; clear hn9 hg9)
      )
    refine bodyPost_ret (v := .tuple #[.agg #[.int .i64 s, .slice A l.length c], .int .i64 2, .slice none 0 0, .slice none 0 0]) (by simp [results, Try.results33, go_sem, hr0, hr1]) rfl ?_
    refine mpost_same HD2.out HG9.out hlc ?_
    rw [stepW, if_neg (by rw [HK.out]; decide), if_neg (by rw [HK.out]; decide), if_neg (by rw [HK.out]; decide), if_neg (by rw [HK.out]; decide)]
    simp [errV, HN.out]
end Go.Proofs.Ytbcejdmgdgghfaa
