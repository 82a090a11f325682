/- WindowOneByOne: what a round keeps. Conditions: none. -/
import Derived.Test.YtbcejdmgdgghfaaPb
import Derived.Deep.OwnRows
import Derived.Maps.AppendAt
namespace Go.Proofs.Ytbcejdmgdgghfaa
set_option linter.unusedSimpArgs false
set_option linter.unusedVariables false
set_option linter.unnecessarySimpa false
open Go.RowKit

theorem run_append_none {P : Program} (w : World) (base : Nat) (t ty e : TypeId) (i : TypeInfo) (size : Nat) (ht : P.underlying t = some (.slice e)) (hi : P.info? e = some i)
    (v : Value) (n : Nat) (xs : List Value) (hown : w.ownsRow base e size v n xs) : (Builtin.append_ #[t, t] ty #[v, .slice none 0 0]).run P w = .ok v w := by
  rcases hown.2 with ⟨rfl, rfl⟩ | ⟨g, cap, cur, rfl, _, _, hnc, _⟩
  · simp [Builtin.append_, run_underlying ht, sizeOf, typeInfo, hi, Builtin.lenOf, Builtin.firstCells]
  · simp [Builtin.append_, run_underlying ht, sizeOf, typeInfo, hi, Builtin.lenOf, Builtin.firstCells, hnc, storeCells]

/-- one own row of results is appended to another -/
theorem wpList_app43 {ops : Array Oper} {Q : Exit → Act → World → Prop} {rest : List Oper} {a : Act} {w : World} {o : Oper} (hgd : o.guard = none) (s x : Operand) (ho : o.op = .call { callee := .builtin .append, args := #[s, x], argTypes := #[30, 30] })
    (base base2 n m : Nat) (v vx : Value) (xs ys : List Value) (hs : a.eval s = v) (hx : a.eval x = vx) (hown : w.ownsRow base 43 33 v n xs) (hox : w.ownsRow base2 43 33 vx m ys) (h1 : ∀ u ∈ ys, u.oneCell' = true)
    (hnm : n + m ≤ 100000) (hbase : base ≤ w.heap.size)
    (h : ∀ v' w', w'.ownsRow base 43 33 v' (n + m) (xs ++ ys) → w.grownBy w' v.ownBlock → (v'.ownBlock = v.ownBlock ∨ v'.ownBlock = some w.heap.size) → wpList Try.prog ops Q rest (a.put o.dst v') w') : wpList Try.prog ops Q (o :: rest) a w := by
  obtain ⟨i0, hi0, hz0, hz1, hz2⟩ := info_parts info43
  rcases hox.2 with ⟨rfl, rfl⟩ | ⟨g, cap, cur, rfl, hb, hh, hnc, hcm, hcs, htk⟩
  · have hy : ys = [] := List.eq_nil_of_length_eq_zero (by simpa using hox.1)
    subst hy
    have hrun := run_append_none (P := Try.prog) w base 30 o.type 43 i0 33 Try.underlying30 hi0 v n xs hown
    refine wpList_plain hgd fun K hK => ?_
    unfold Oper.wp execOp
    simp only [ho, resolve, invoke, builtin, Sem.run_bind, Sem.run_pure, Result.andThen_ok, List.map_toArray, List.map_cons, List.map_nil, hs, hx, hrun]
    exact hK _ _ (h v w (by simpa using hown) ⟨rfl, rfl, rfl, Nat.le_refl _, fun _ _ _ => rfl⟩ (.inl rfl))
  · refine wpList_append_own_at w hgd s x 30 ho base 43 i0 z43 33 40 Try.underlying30 hi0 hz0 hz1 hz2 z43_size (by omega) v n xs hs hown ⟨g, 0, none⟩ m cap ys hx hox.1 (fun j u hu => ?_) h1 (by simp only [maxLen]; omega) (by omega) hbase (fun v' w' k1 k2 _ k4 => h v' w' k1 k2 k4)
    rw [Addr.add_lit, Nat.zero_add, cell_of_row w g j cur 43 (0, 0) hh]
    rw [← htk] at hu
    obtain ⟨hl, _⟩ := List.getElem?_eq_some_iff.1 hu
    rw [List.getElem?_take, if_pos (by simp at hl; omega)] at hu
    simpa using hu
theorem own_bd {w : World} {base e size n : Nat} {v : Value} {xs : List Value} (h : w.ownsRow base e size v n xs) : ∀ x, v.ownBlock = some x → base ≤ x ∧ x < w.heap.size := by
  intro x hx
  rcases h.2 with ⟨rfl, _⟩ | ⟨g, cap, cur, rfl, hb, hh, _⟩
  · simp [Value.ownBlock] at hx
  · obtain rfl : g = x := by simpa [Value.ownBlock] using hx
    exact ⟨hb, (Array.getElem?_eq_some_iff.1 hh).1⟩
theorem own_below {w w' : World} {base e size n : Nat} {v : Value} {xs : List Value} (h : w.ownsRow base e size v n xs) (hb : Below w.heap.size w w') : w'.ownsRow base e size v n xs :=
  h.kept (hb.grownBy none) (by cases v.ownBlock <;> simp)
theorem ints_flat : ∀ l : List Int, ints l = l.flatMap fun x => [Value.int .i64 x]
  | [] => rfl
  | x :: l => by
    have := ints_flat l
    simp only [ints] at this
    simp [ints, this]
theorem rd_int {w : World} {g : Nat} {A : Option Addr} {l : List Int} (h : Rd w g 1 A l.length (ints l)) {k : Nat} (hk : k < l.length) : ∃ off, A = some ⟨g, off, none⟩ ∧ w.cell? ⟨g, off + k, none⟩ = some (.int .i64 l[k]) := by
  rw [ints_flat] at h
  obtain ⟨_, off, hA, hc⟩ := Rd.elem (f := fun x : Int => [Value.int .i64 x]) (size := 1) (fun _ => rfl) h hk rfl
  exact ⟨off, hA, by have := hc 0 _ rfl; simpa using this⟩

structure ROne (w : World) (B0 b sb : Nat) (sz : Int) (l : List Of) (d m st : Nat) (said : List Nat) (v : Value) (g' : Nat) (wr : World) : Prop where
  win : Win wr b sz (winL l said d m) g'
  gb : g' ≠ b
  gn : 0 < m → B0 ≤ g' ∧ v.ownBlock ≠ some g'
  got : wr.ownsRow B0 43 33 v d ((gotL l d).flatMap resc)
  srow : Blk wr sb 3 (ints (said.map Int.ofNat)).toArray
  sim : Sim l said d m
  ms : meas l said (d + m) + st ≤ 180 ∨ meas l said (d + m) = 0
  bel : Below w.heap.size w wr
  hB : B0 ≤ wr.heap.size
  bs : b < sb ∧ sb < B0 ∧ w.heap.size ≤ b
section
variable {w wr w1 w2 : World} {B0 b sb d m st g' : Nat} {sz : Int} {l : List Of} {said : List Nat} {v : Value}
theorem ROne.below (h : ROne w B0 b sb sz l d m st said v g' wr) (hb : Below wr.heap.size wr w1) : ROne w B0 b sb sz l d m st said v g' w1 :=
  ⟨h.win.below hb, h.gb, h.gn, own_below h.got hb, h.srow.below hb, h.sim, h.ms, h.bel.trans (hb.mono h.bel.size), Nat.le_trans h.hB hb.size, h.bs⟩
theorem ROne.lenW (h : ROne w B0 b sb sz l d m st said v g' wr) : (winL l said d m).length ≤ 100000 := by
  rw [winL_len]
  have := h.sim.nl
  have := h.sim.n60
  omega
theorem ROne.idle (h : ROne w B0 b sb sz l d m st said v g' wr) (ho : outs (winL l said d m) = []) (hn : d + m = l.length) : ROne w B0 b sb sz l d m (st + 1) said v g' wr :=
  ⟨h.win, h.gb, h.gn, h.got, h.srow, h.sim, .inr (meas_idle h.sim ho hn), h.bel, h.hB, h.bs⟩
theorem gotL_len (l : List Of) (d : Nat) : (gotL l d).length = d := by simp [gotL]
theorem gotL_cells (l : List Of) (d : Nat) : ((gotL l d).flatMap resc).length = d * 33 := by rw [length_flatMap_const resc_len, gotL_len]
theorem ROne.settle (h : ROne w B0 b sb sz l d m st said v g' wr) {q g1 : Nat} {v2 : Value} (hq : q ≤ m) (hg : gotL l d ++ settled (winL l said d m) = gotL l (d + q)) (hd : (winL l said d m).drop (nset (winL l said d m)) = winL l said (d + q) (m - q)) (hs : Sim l said (d + q) (m - q)) (hsl : (settled (winL l said d m)).length = q)
    (hg1 : wr.grownBy w1 (some b)) (hw1 : Win w1 b sz ((winL l said d m).drop (nset (winL l said d m))) g1) (hgb1 : g1 ≠ b) (hgn1 : 0 < ((winL l said d m).drop (nset (winL l said d m))).length → wr.heap.size ≤ g1)
    (ho2 : w2.ownsRow B0 43 33 v2 (d + (settled (winL l said d m)).length) ((gotL l d).flatMap resc ++ (settled (winL l said d m)).flatMap resc)) (hg2 : w1.grownBy w2 v.ownBlock) (hv2 : v2.ownBlock = v.ownBlock ∨ v2.ownBlock = some w1.heap.size) :
    ∃ g2, ROne w B0 b sb sz l (d + q) (m - q) st said v2 g2 w2 := by
  have hvb := own_bd h.got
  obtain ⟨hb1, hb2, hb3⟩ := h.bs
  have hz1 := hg1.size
  have hz2 := hg2.size
  have hB := h.hB
  have hbel : Below w.heap.size w w2 := (h.bel.grown hg1 h.bel.size (fun x hx => by simp at hx; omega)).grown hg2 (Nat.le_trans h.bel.size hz1) (fun x hx => by have := hvb x hx; omega)
  have hsr : Blk w2 sb 3 (ints (said.map Int.ofNat)).toArray := (h.srow.grown hg1 (by simp; omega)).grown hg2 (fun e => by have := hvb sb e.symm; omega)
  have hgot : w2.ownsRow B0 43 33 v2 (d + q) ((gotL l (d + q)).flatMap resc) := by rw [← hg, List.flatMap_append]; rw [hsl] at ho2; exact ho2
  rw [hd] at hw1 hgn1
  have hbv : some b ≠ v.ownBlock := fun e => by have := hvb b e.symm; omega
  rw [winL_len] at hgn1
  have hms : meas l said (d + q + (m - q)) + st ≤ 180 ∨ meas l said (d + q + (m - q)) = 0 := by
    rw [show d + q + (m - q) = d + m by omega]; exact h.ms
  rcases Nat.eq_zero_or_pos (m - q) with h0 | h0
  · refine ⟨b + 1, ?_, by omega, fun h => by omega, hgot, hsr, hs, hms, hbel, by omega, h.bs⟩
    rw [h0] at hw1 ⊢
    exact (Win.nil_at (g' := w1.heap.size) hw1).grown hg2 hbv (fun e => by have := hvb _ e.symm; omega) |>.nil_at
  · have h1 := hgn1 h0
    have hlt : g1 < w1.heap.size := by
      obtain ⟨A, c, _, hr, _⟩ := hw1
      exact (hr.2 (by rw [winL_len]; exact h0)).1
    refine ⟨g1, hw1.grown hg2 hbv (fun e => by have := hvb _ e.symm; omega), hgb1, fun _ => ⟨by omega, ?_⟩, hgot, hsr, hs, hms, hbel, by omega, h.bs⟩
    rcases hv2 with e | e
    · rw [e]; exact fun e' => by have := hvb _ e'; omega
    · rw [e]; simp; omega
theorem ROne.offered (h : ROne w B0 b sb sz l d m st said v g' wr) (hn : d + m < l.length) (hb : busyB sz (winL l said d m) = false) {g1 : Nat} (hg1 : wr.grownBy w1 (some b)) (hw1 : Win w1 b sz (winL l said d m ++ [⟨idN (d + m), 10, 0⟩]) g1) (hgb1 : g1 ≠ b) (hgn : wr.heap.size ≤ g1) :
    ROne w B0 b sb sz l d (m + 1) (st + 1) said v g1 w1 := by
  have hvb := own_bd h.got
  obtain ⟨hb1, hb2, hb3⟩ := h.bs
  have hB := h.hB
  obtain ⟨s1, s2, s3⟩ := sim_offer h.sim hn hb
  have e : winL l said d m ++ [⟨idN (d + m), 10, 0⟩] = winL l said d (m + 1) := by
    have hh := sim_has h.sim hn
    have hz : badN 10 = false := by decide
    rw [← s2]
    simp only [offL, hh, hz, hb, Bool.false_eq_true, if_false]
  rw [e] at hw1
  refine ⟨hw1, hgb1, fun _ => ⟨by omega, fun e' => by have := hvb _ e'; omega⟩, h.got.kept hg1 (.inr fun e' => by have := hvb _ e'; omega), h.srow.grown hg1 (by simp; omega), s3, ?_, h.bel.grown hg1 h.bel.size (fun x hx => by simp at hx; omega), Nat.le_trans hB hg1.size, h.bs⟩
  have := h.ms
  unfold meas at this ⊢
  omega
theorem ints_set (said : List Nat) (i x : Nat) : (ints (said.map Int.ofNat)).toArray.setIfInBounds i (.int .i64 (x : Nat)) = (ints ((said.set i x).map Int.ofNat)).toArray := by
  simp [ints, List.map_set]
theorem ints_get (said : List Nat) {i : Nat} (hi : i < said.length) : (ints (said.map Int.ofNat))[i]? = some (.int .i64 ((said.getD i 0 : Nat) : Int)) := by
  simp [ints, hi]
theorem ROne.answered (h : ROne w B0 b sb sz l d m st said v g' wr) {i : Nat} (hi1 : d ≤ i) (hi2 : i < d + m) (hk : said.getD i 0 < (ansOf (l.getD i default)).length) {g1 : Nat} (hg1 : wr.grownBy w1 (some b))
    (hw1 : Win w1 b sz (winL l (said.set i (said.getD i 0 + 1)) d m) g1) (hgb1 : g1 ≠ b) (hgn : g1 = g' ∨ wr.heap.size ≤ g1) :
    ROne w B0 b sb sz l d m (st + 1) (said.set i (said.getD i 0 + 1)) v g1 (w1.setCell ⟨sb, i, none⟩ (.int .i64 ((said.getD i 0 + 1 : Nat) : Int))) := by
  have hvb := own_bd h.got
  obtain ⟨hb1, hb2, hb3⟩ := h.bs
  have hB := h.hB
  have hz1 := hg1.size
  have hnl := h.sim.nl
  have hlen := h.sim.len
  obtain ⟨_, _, s3⟩ := sim_answer h.sim hi1 hi2 hk
  have hm := meas_answer (next := d + m) hlen (by omega) hk
  have hm0 : 0 < m := by omega
  obtain ⟨n1, n2⟩ := h.gn hm0
  have n1' : B0 ≤ g1 ∧ v.ownBlock ≠ some g1 := by
    rcases hgn with rfl | h2
    · exact ⟨n1, n2⟩
    · exact ⟨by omega, fun e' => by have := hvb _ e'; omega⟩
  have hgs := grownBy_setCell w1 sb i (.int .i64 ((said.getD i 0 + 1 : Nat) : Int))
  have hsr := (h.srow.grown hg1 (by simp; omega)).set_ i (.int .i64 ((said.getD i 0 + 1 : Nat) : Int))
  rw [ints_set] at hsr
  refine ⟨hw1.grown hgs (by simp; omega) (by simp; omega), hgb1, fun _ => n1', (h.got.kept hg1 (.inr fun e' => by have := hvb _ e'; omega)).kept hgs (.inr fun e' => by have := hvb _ e'; omega), hsr, s3, ?_, (h.bel.grown hg1 h.bel.size (fun x hx => by simp at hx; omega)).grown hgs (by have := h.bel.size; omega) (fun x hx => by simp at hx; omega), by have := hgs.size; omega, h.bs⟩
  have := h.ms
  omega
end
end Go.Proofs.Ytbcejdmgdgghfaa
