/- Contract of build: operations on a new window and on the model. Conditions: at most 100 operations. -/
import Derived.Test.YtbcejdmgdgghfaaWu
import Derived.Test.YtbcejdmgdgghfaaWq
namespace Go.Proofs.Ytbcejdmgdgghfaa
set_option linter.unusedSimpArgs false
set_option linter.unusedVariables false
set_option linter.unnecessarySimpa false
open Go.RowKit

/-- a variable of the model's type -/
def F58 (cs : Array Value) : Prop := ∃ x A n c, cs = #[.int .i64 x, .slice A n c]
theorem rd_not58 {w : World} {g : Nat} {A : Option Addr} {l : List Ofr} (h : Rd w g 34 A l.length (l.flatMap ofrc)) (hp : 0 < l.length) : ¬ ∃ cs, F58 cs ∧ w.heap[g]? = some (.cells cs 58 (0, 0)) := by
  rintro ⟨cs, ⟨x, A', n, c, rfl⟩, hb⟩
  obtain ⟨_, off, _, hc⟩ := h.elem ofrc_len hp rfl
  have hb' : Blk w g 58 #[.int .i64 x, .slice A' n c] := hb
  have h0 : (ofrc l[0])[0]? = (idc l[0].id)[0]? := ofrc_id _ 0 (by omega)
  obtain ⟨u, hu⟩ : ∃ u : UInt8, (idc l[0].id)[0]? = some (.int .u8 u.toNat) := by
    have hl := idc_len l[0].id
    unfold idc at hl ⊢
    rw [List.length_map] at hl
    exact ⟨l[0].id.bytes[0], by rw [List.getElem?_map, List.getElem?_eq_getElem (by omega)]; rfl⟩
  have := hc 0 _ (h0.trans hu)
  rw [hb'.cell, List.getElem?_toArray] at this
  match hk : off + 0 * 34 + 0 with
  | 0 => rw [hk] at this; simp at this
  | 1 => rw [hk] at this; simp at this
  | n + 2 => rw [hk] at this; simp at this
theorem rd_grown58 {w w' : World} {g x : Nat} {A A' : Option Addr} {l : List Ofr} {s : Int} {n c : Nat} (h : Rd w g 34 A l.length (l.flatMap ofrc)) (hx : Blk w x 58 #[.int .i64 s, .slice A' n c]) (hg : w.grownBy w' (some x)) : Rd w' g 34 A l.length (l.flatMap ofrc) := by
  rcases Nat.eq_zero_or_pos l.length with h0 | h0
  · have : l = [] := List.eq_nil_of_length_eq_zero h0
    subst this; exact Rd.nil _ _ _ _
  · refine h.grown hg fun e => ?_
    injection e with e
    exact rd_not58 h h0 ⟨_, ⟨s, A', n, c, rfl⟩, by rw [e]; exact hx⟩
theorem win_grown58 {w w' : World} {b g x : Nat} {A' : Option Addr} {l : List Ofr} {s s' : Int} {n c : Nat} (h : Win w b s l g) (hgb : g ≠ b) (hx : Blk w x 58 #[.int .i64 s', .slice A' n c]) (hg : w.grownBy w' (some x)) : Win w' b s l g := by
  obtain ⟨A, c2, h1, h2, h3⟩ := h
  refine ⟨A, c2, h1.grown hg ?_, rd_grown58 h2 hx hg, h3⟩
  simp only [ne_eq, Option.some.injEq]
  exact h1.ne_ hx (by decide)

/-- no identity twice -/
def NdL (l : List Ofr) : Prop := (l.map (·.id)).Nodup
theorem ndL_nil : NdL [] := List.nodup_nil
theorem ndL_step {s : Int} {l : List Ofr} {o : Op'} (h : NdL l) : NdL (stepW s l o).offers := by
  unfold stepW
  split
  · simp only [offL]
    split
    · exact h
    · split
      · exact h
      · split
        · exact h
        · rename_i hd _
          have hn : l.find? (isId o.id) = none := by simpa [hasId] using hd
          unfold NdL at h ⊢
          rw [List.map_append, List.nodup_append]
          refine ⟨h, by simp, fun a ha b hb e => ?_⟩
          subst e
          obtain ⟨x, hx, rfl⟩ := List.mem_map.1 ha
          have := List.find?_eq_none.1 hn x hx
          simp only [List.map_cons, List.map_nil, List.mem_singleton] at hb
          simp [isId, hb] at this
  · split
    · simp only [ansL]
      split
      · exact h
      · rename_i x hx
        split
        · exact h
        · split
          · rcases idxI_spec (isId o.id) l 0 with ⟨_, h2⟩ | ⟨k, hkl, _, _, h3, h4⟩
            · rw [h2] at hx; cases hx
            · rw [h3] at hx
              injection hx with hx
              subst hx
              rw [h4]
              unfold NdL at h ⊢
              rw [List.map_set]
              have e : (l.map (·.id)).set k l[k].id = l.map (·.id) := by
                apply List.ext_getElem (by simp)
                intro j h1 h2
                rw [List.getElem_set]
                split
                · rename_i e; subst e; simp
                · rfl
              show ((l.map (·.id)).set k l[k].id).Nodup
              rw [e]; exact h
          · exact h
    · split
      · unfold NdL at h ⊢
        exact h.sublist ((List.drop_sublist _ _).map _)
      · split
        · unfold NdL at h ⊢
          exact h.sublist (List.filter_sublist.map _)
        · exact h
theorem nd_outcome {l : List Ofr} (h : NdL l) {k : Nat} (hk : k < l.length) : outcomeOf l l[k].id = (l[k].outcome, true) := by
  unfold outcomeOf
  rcases idxI_spec (isId l[k].id) l 0 with ⟨_, h2⟩ | ⟨j, hj, _, hp, h3, _⟩
  · have := List.find?_eq_none.1 h2 l[k] (List.getElem_mem hk)
    simp [isId] at this
  · rw [h3]
    have hid : l[j].id = l[k].id := by simpa [isId] using hp
    have hjk : j = k := by
      unfold NdL at h
      have := (List.getElem_inj (h₀ := by simpa using hj) (h₁ := by simpa using hk) h).1 (by simpa using hid)
      exact this
    subst hjk
    rfl
structure BS (w : World) (b gw bm gm br : Nat) (s : Int) (l : List Ofr) (A : Option Addr) (c : Nat) (wr : World) : Prop where
  win : Win wr b s l gw
  gwb : gw ≠ b
  ok : OkL l
  nd : NdL l
  m : Blk wr bm 58 #[.int .i64 s, .slice A l.length c]
  rd : Rd wr gm 34 A l.length (l.flatMap ofrc)
  lc : l.length ≤ c
  gmb : gm ≠ b
  res : Blk wr br 58 #[.int .i64 0, .slice none 0 0]
  s1 : 1 ≤ s
  s2 : s ≤ 64
  lb : w.heap.size ≤ b
  lm : w.heap.size ≤ bm
  lr : w.heap.size ≤ br
  mr : bm ≠ br
  below : Below w.heap.size w wr
theorem BS.below_ {w wr w' : World} {b gw bm gm br : Nat} {s : Int} {l : List Ofr} {A : Option Addr} {c : Nat} (h : BS w b gw bm gm br s l A c wr) (hb : Below wr.heap.size wr w') : BS w b gw bm gm br s l A c w' :=
  ⟨h.win.below hb, h.gwb, h.ok, h.nd, h.m.below hb, h.rd.below hb, h.lc, h.gmb, h.res.below hb, h.s1, h.s2, h.lb, h.lm, h.lr, h.mr, h.below.trans (hb.mono h.below.size)⟩
theorem wp_store_blk {P : Program} {Q : Exit → Act → World → Prop} {a : Act} {w : World} {K : Act → World → Prop} {o : Oper} (ty : TypeId) (px x : Operand) (ho : o.op = .store ty px x) (g off : Nat) (e : TypeId) (c vs : List Value) (hb : Blk w g e c.toArray) (hp : a.eval px = .pointer (some ⟨g, off, none⟩)) (hx : a.eval x = .agg vs.toArray)
    (hi : (P.info? ty).map (·.size) = some vs.length) (hfit : off + vs.length ≤ c.length) (h1 : ∀ u ∈ vs, u.oneCell' = true)
    (h : ∀ w', Blk w' g e (c.take off ++ vs ++ c.drop (off + vs.length)).toArray → w.grownBy w' (some g) → w'.heap.size = w.heap.size → K (a.put o.dst undef) w') : o.wp P a w K Q := by
  have hst := run_storeCells_at P g off e vs 0 c.toArray w hb (by simpa using hfit) h1
  have hsv : (storeVar ty ⟨g, off, none⟩ (.agg vs.toArray)).run P w = .ok () (w.setRow g (c.take off ++ vs ++ c.drop (off + vs.length)).toArray) := by
    cases hq : P.info? ty with
    | none => simp [hq] at hi
    | some i =>
      have hs : i.size = vs.length := by simpa [hq] using hi
      simp [storeVar, sizeOf, typeInfo, hq, Value.cells, hs, hst]
  unfold Oper.wp execOp
  simp only [ho, hp, hx, Instr.storeAt, Instr.sureAddr, Sem.run_bind, Sem.run_pure, Result.andThen_ok, hsv]
  refine h _ ?_ ⟨rfl, rfl, rfl, by simp, fun k _ hk => setRow_other w g k _ (fun e => hk (by simp [e]))⟩ (by simp)
  exact setRow_heap w g c.toArray _ e _ hb
/-- the model as do's first result -/
def MV (B gm : Nat) (t : Stp) (v : Value) (w' : World) : Prop :=
  ∃ A c g, v = .agg #[.int .i64 t.size, .slice A t.offers.length c] ∧ Rd w' g 34 A t.offers.length (t.offers.flatMap ofrc) ∧ t.offers.length ≤ c ∧ (g = gm ∨ B ≤ g)
def DoV (B gm : Nat) (t : Stp) (v : Value) (w' : World) : Prop :=
  ∃ m y1 y2, v = .tuple #[m, .int .i64 t.err, y1, y2] ∧ MV B gm t m w' ∧ w'.ownsRow B 43 33 y1 t.res.length (t.res.flatMap resc) ∧ w'.ownsRow B 37 32 y2 t.ids.length (t.ids.flatMap idc)
theorem MV.rb {B gm : Nat} {t : Stp} {v : Value} {w w' : World} (h : MV B gm t v w) (hb : Rb w w') : MV B gm t v w' := by
  obtain ⟨A, c, g, h1, h2, h3, h4⟩ := h
  exact ⟨A, c, g, h1, h2.below hb, h3, h4⟩
theorem MV.rv {B B' gm : Nat} {t : Stp} {v : Value} {w w' : World} (h : MV B gm t v w) (hb : Rv B' 58 F58 w w') (hB : B' ≤ w.heap.size) : MV B gm t v w' := by
  obtain ⟨A, c, g, h1, h2, h3, h4⟩ := h
  exact ⟨A, c, g, h1, hb.rd hB h2 (rd_not58 h2), h3, h4⟩
theorem DoV.rb {B gm : Nat} {t : Stp} {v : Value} {w w' : World} (h : DoV B gm t v w) (hb : Rb w w') : DoV B gm t v w' := by
  obtain ⟨m, y1, y2, h1, h2, h3, h4⟩ := h
  exact ⟨m, y1, y2, h1, h2.rb hb, below_kept h3 hb, below_kept h4 hb⟩
theorem DoV.rv {B B' gm : Nat} {t : Stp} {v : Value} {w w' : World} (h : DoV B gm t v w) (hb : Rv B' 58 F58 w w') (hB : B' ≤ w.heap.size) : DoV B gm t v w' := by
  obtain ⟨m, y1, y2, h1, h2, h3, h4⟩ := h
  exact ⟨m, y1, y2, h1, h2.rv hb hB, hb.own hB h3 (by decide), hb.own hB h4 (by decide)⟩
theorem rv_size {B : Nat} {T : TypeId} {F : Array Value → Prop} {w w' : World} (h : Rv B T F w w') (hB : B ≤ w.heap.size) : w.heap.size ≤ w'.heap.size := (h hB).2.2.2.1
theorem rv_below {w w' : World} {T : TypeId} {F : Array Value → Prop} (h : Rv w.heap.size T F w.drew w') : Below w.heap.size w w' := below_undrew (h.below (Nat.le_refl _))
/-- what holds of the variable behind the store -/
def PC58 (B : Nat) (f : Nat → Value) (w' : World) : Prop := ∃ q sz A n c, f 11 = .pointer (some ⟨q, 0, none⟩) ∧ f 7 = .agg #[.int .i64 sz, .slice A n c] ∧ B ≤ q ∧ Blk w' q 58 #[.int .i64 sz, .slice A n c]
theorem step_sz {s : Int} {l : List Ofr} {o : Op'} (h1 : 1 ≤ s) (h2 : s ≤ 64) : 1 ≤ (stepW s l o).size ∧ (stepW s l o).size ≤ 64 := by
  unfold stepW
  split
  · exact ⟨h1, h2⟩
  · split
    · exact ⟨h1, h2⟩
    · split
      · exact ⟨h1, h2⟩
      · split
        · exact ⟨h1, h2⟩
        · simp only
          split
          · rename_i h; simpa [validB] using h
          · exact ⟨h1, h2⟩
theorem step_lens (s : Int) (l : List Ofr) (o : Op') : (stepW s l o).res.length ≤ l.length ∧ (stepW s l o).ids.length ≤ l.length := by
  unfold stepW
  split
  · simp
  · split
    · simp
    · split
      · simp [settled]; omega
      · split
        · simpa using outs_le l
        · simp
/-- what build leaves -/
def BPost (w : World) (e : Ending) (w' : World) : Prop :=
  ∃ b gw gm s l A c, e = .returned (.tuple #[.pointer (some ⟨b, 0, none⟩), .agg #[.int .i64 s, .slice A l.length c], .bool true]) ∧ Win w' b s l gw ∧ gw ≠ b ∧ OkL l ∧ NdL l ∧ l.length ≤ 100 ∧ Rd w' gm 34 A l.length (l.flatMap ofrc) ∧ l.length ≤ c ∧ gm ≠ b ∧ 1 ≤ s ∧ s ≤ 64 ∧ w.heap.size ≤ b ∧ Below w.heap.size w w'

set_option maxRecDepth 20000 in
set_option maxHeartbeats 4000000 in
theorem build_any (n : Int) (l : List Op') (g c : Nat) (A : Option Addr) (w : World) (hr : Rd w g 34 A l.length (l.flatMap opc)) (h100 : l.length ≤ 100) :
    Calls Try.prog 24 #[.int .i64 n, .slice A l.length c] w (BPost w) := by
  have HR := Lib.hid hr
  obtain ⟨i0, hi0, hz0, hz1, hz2⟩ := info_parts info58
  obtain ⟨s, hs⟩ : ∃ s, s = szOf n := ⟨_, rfl⟩
  obtain ⟨e1, e2, e3, e4, e5⟩ : SzF n s := hs ▸ szF n
  have hs1 : 1 ≤ s ∧ s ≤ 64 := hs ▸ szOf_le n
  obtain ⟨hs1, hs2⟩ := hs1
  have hsv : validB s = true := hs ▸ szOf_valid n
  have HV := Lib.hid hsv
  clear hr hs hsv
  go_enter Try.func24, Try.ntmps24
  go_wp2_with (first
    | (go_at_call 12; with_reducible refine (new_ok s _ HV.out).mono ?_; rintro e w2 ⟨rfl, hw2, he2⟩; have hz2' : w2.heap.size = w.heap.size + 2 := (by rw [he2]; simp); have hres : Blk w2 w.heap.size 58 #[.int .i64 0, .slice none 0 0] := (by rw [he2]; exact (Blk.new w 58 _).alloc _); have hbel : Below w.heap.size w w2 := (by rw [he2]; exact (bnew w _).trans' (bnew _ _)); have hwin : Win w2 (w.heap.size + 1) s [] 0 := (by simpa using hw2); have HZ2 := Lib.hid hz2'; have HRES := Lib.hid hres; have HBEL := Lib.hid hbel; have HWIN := Lib.hid hwin; clear hz2' hres hbel hwin he2 hw2 e1 e2 e3 e4 e5))
  have hBS : BS w (w.heap.size + 1) (w.heap.size) w2.heap.size w.heap.size w.heap.size s [] none 0 (w2.alloc (.cells #[.int .i64 s, .slice none 0 0] 58)) :=
    ⟨HWIN.out.nil_at.below (bnew _ _), by omega, okL_nil, ndL_nil, Blk.new _ _ _, Rd.nil _ _ _ _, Nat.le_refl _, by omega, HRES.out.alloc _, hs1, hs2, by omega, by have := HZ2.out; omega, Nat.le_refl _, by have := HZ2.out; omega, HBEL.out.trans ((bnew w2 _).mono HBEL.out.size)⟩
  have HBS := Lib.hid hBS
  clear hBS
  go_loopw [10] (fun si wr => ∃ k sk lk gw gm A c, k ≤ l.length ∧ si = .int .i64 k ∧ lk.length ≤ k ∧ BS w (w.heap.size + 1) gw w2.heap.size gm w.heap.size sk lk A c wr) (fun si _ => l.length - (intOf si).toNat)
  case atStart => exact ⟨0, s, [], _, _, none, 0, by omega, rfl, Nat.le_refl _, HBS.out⟩
  case round =>
    obtain ⟨k, sk, lk, gw, gm, Am, cm, hk, rfl, hlk, hbs⟩ := hrel
    have HS := Lib.hid hbs
    clear hbs
    by_cases hlt : k < l.length
    · obtain ⟨hg, off, rfl, hc⟩ := (HR.out.below HS.out.below).elem opc_len hlt rfl
      have HC := Lib.hid hc
      clear hc
      obtain ⟨t, ht⟩ : ∃ t, t = stepW sk lk l[k] := ⟨_, rfl⟩
      have HT := Lib.hid ht
      clear ht
      go_wp2_with (first
        | (with_reducible refine at_dst 53 ?_; refine wpList_load_cells rfl 51 _ rfl g (off + k * 34) (opc l[k]) rfl _ Try.underlying51 rfl (by rw [opc_len]; exact size51) (fun j u hu => HC.out j u hu) ?_)
        | (go_at_call 23; with_reducible refine (perform_any (w.heap.size + 1) gw sk lk l[k] wr HS.out.win (by omega) HS.out.gwb HS.out.ok).mono ?_; intro e w3 hpp; rw [← HT.out] at hpp; unfold PPost at hpp; obtain ⟨v1, v2, he, ho1, ho2, hg3, g3, hw3, hgb3⟩ := hpp; subst he; have HO1 := Lib.hid ho1; have HO2 := Lib.hid ho2; have HG3 := Lib.hid hg3; have HW3 := Lib.hid hw3; clear ho1 ho2 hg3 hw3))
      have hz2 := HZ2.out
      have HM3 := Lib.hid (HS.out.m.grown HG3.out (by simp; omega))
      have HRD3 := Lib.hid (HS.out.rd.grown HG3.out (by simpa using HS.out.gmb))
      have HRES3 := Lib.hid (HS.out.res.grown HG3.out (by simp))
      have HB3 := Lib.hid (HS.out.below.grown HG3.out HS.out.below.size (fun x hx => by simp at hx; omega))
      obtain ⟨hg3', off', hA', hc3⟩ := (HR.out.below HB3.out).elem opc_len hlt rfl
      obtain rfl : off = off' := by simpa using hA'
      have HC3 := Lib.hid hc3
      have HG3' := Lib.hid hg3'
      clear hA' hc3 hz2 hg3'
      refine wp_region_seqX (nt := 88) (by kernel_rfl) ⟨Rb, some 12, fun j => Nat.beq j 11, PC58 w3.heap.size⟩ [0,1,2,3,4,5,6,7,8,9,10,11,12,13,14,15] [] (Rv w3.heap.size 58 F58) Rv.refl Rb.refl Rv.of_rb Rv.trans [(5, DoV w3.heap.size gm t), (6, DoV w3.heap.size gm t), (7, MV w3.heap.size gm t), (9, fun v w' => w'.ownsRow w3.heap.size 43 33 v t.res.length (t.res.flatMap resc)), (10, fun v w' => w'.ownsRow w3.heap.size 37 32 v t.ids.length (t.ids.flatMap idc)), (11, fun v w' => ∃ q, v = .pointer (some ⟨q, 0, none⟩) ∧ w3.heap.size ≤ q ∧ Blk w' q 58 #[.int .i64 0, .slice none 0 0]), (12, fun _ _ => True)] (by kernel_rfl) (by simp) rfl (by kernel_rfl) (by simp) ?_ ?_ ?_ ?_
      · rintro f w w' _ h2 ⟨q, sz, A, n, c, e1, e2, e3, h⟩
        exact ⟨q, sz, A, n, c, e1, e2, e3, h.below h2⟩
      · intro i hi
        obtain rfl : 12 = i := by simpa [Ext.at] using hi
        rfl
      · refine ⟨fun v w w' h0 h2 h => ?_, fun v w w' h0 h2 h => ?_, fun v w w' h0 h2 h => ?_, fun v w w' h0 h2 h => ?_, fun v w w' h0 h2 h => ?_, fun v w w' h0 h2 h => ?_, fun _ _ _ _ _ h => h, trivial⟩
        · exact h2.elim (fun h2 => h.rv h2.2 (rv_size h0 (Nat.le_refl _))) h.rb
        · exact h2.elim (fun h2 => h.rv h2.2 (rv_size h0 (Nat.le_refl _))) h.rb
        · exact h2.elim (fun h2 => h.rv h2.2 (rv_size h0 (Nat.le_refl _))) h.rb
        · exact h2.elim (fun h2 => h2.2.own (rv_size h0 (Nat.le_refl _)) h (by decide)) (below_kept h)
        · exact h2.elim (fun h2 => h2.2.own (rv_size h0 (Nat.le_refl _)) h (by decide)) (below_kept h)
        · rcases h2 with h2 | h2
          · exact absurd h2.1.1 (fun h => by cases h)
          · obtain ⟨q, e, hq, hb⟩ := h
            exact ⟨q, e, hq, hb.below h2⟩
      (refine' Sq.det (E := _) (b := _) (by rfl) (by rfl) (by rfl) (fun w' hR hf => ?_) ?_ ?_; rotate_left 2; (· (refine exec_load_cells 58 _ w2.heap.size 0 [.int .i64 sk, .slice Am lk.length cm] ?_ _ Try.underlying58 rfl (size58' _ _) (fun j u hu => ?_); (· kernel_rfl); (rw [Nat.zero_add, (HM3.out.below (rv_below hR)).cell, List.getElem?_toArray]; exact hu))); (· (simp only [Act.put, List.setIfInBounds_toArray, List.set_cons_zero, List.set_cons_succ]; first | done | rfl)))
      iterate 3 (refine' Sq.det (E := _) (b := _) (by rfl) (by rfl) (by rfl) (fun w' hR hf => ?_) ?_ ?_; rotate_left 2; (· (go_simp; first | done | with_reducible rfl)); (· (simp only [Act.put, List.setIfInBounds_toArray, List.set_cons_zero, List.set_cons_succ]; first | done | rfl)))
      (refine' Sq.det (E := _) (b := _) (by rfl) (by rfl) (by rfl) (fun w' hR hf => ?_) ?_ ?_; rotate_left 2; (· (refine exec_load_cells 51 _ g (off + k * 34) (opc l[k]) ?_ _ Try.underlying51 rfl (by rw [opc_len]; exact size51) (fun j u hu => ?_); (· kernel_rfl); exact ((rv_below hR).cell (p := ⟨g, _, none⟩) HG3'.out).trans (HC3.out j u hu))); (· (simp only [Act.put, List.setIfInBounds_toArray, List.set_cons_zero, List.set_cons_succ]; first | done | rfl)))
      (refine' Sq.anyX (f := _) (by rfl) (by rfl) (by rfl) (by rfl) (fun w' hR hf => ?_) (fun v => ?_) (fun v5 => ?_); (· (go_wp2_with (go_at_call 33; refine (do_any gm cm Am sk lk l[k] w' (HRD3.out.below (rv_below hR)) (by omega) HS.out.lc HS.out.ok).mono ?_; intro e w1 hmp; rw [← HT.out] at hmp; unfold MPost at hmp; obtain ⟨A', c', g', y1, y2, he, m1, m2, m3, m4, m5, m6⟩ := hmp; subst he); have hsz := (rv_below hR).size; exact ⟨m5, _, y1, y2, rfl, ⟨A', c', g', rfl, m1, m2, m6.imp id (Nat.le_trans hsz)⟩, ownsRow_base m3 hsz, ownsRow_base m4 hsz⟩)); rotate_left 1; (· (simp only [Act.put, List.setIfInBounds_toArray, List.set_cons_zero, List.set_cons_succ]; first | done | rfl)))
      (refine' Sq.anyX (f := _) (by rfl) (by rfl) (by rfl) (by rfl) (fun w' hR hf => ?_) (fun v => ?_) (fun v6 => ?_); (· (have h5 : DoV w3.heap.size gm t v5 w' := hf 5 (by decide) _ rfl; refine wp_run (v := v5) (by rfl) ?_; exact ⟨rfl, Rb.refl _, h5⟩)); rotate_left 1; (· (simp only [Act.put, List.setIfInBounds_toArray, List.set_cons_zero, List.set_cons_succ]; first | done | rfl)))
      (refine' Sq.anyX (f := _) (by rfl) (by rfl) (by rfl) (by rfl) (fun w' hR hf => ?_) (fun v => ?_) (fun v7 => ?_); (· (obtain ⟨m, y1, y2, hv, h7, _⟩ : DoV w3.heap.size gm t v6 w' := hf 6 (by decide) _ rfl; subst hv; refine wp_run (v := m) (by rfl) ?_; exact ⟨rfl, Rb.refl _, h7⟩)); rotate_left 1; (· (simp only [Act.put, List.setIfInBounds_toArray, List.set_cons_zero, List.set_cons_succ]; first | done | rfl)))
      (refine' Sq.det (E := _) (b := _) (by rfl) (by rfl) (by rfl) (fun w' hR hf => ?_) ?_ ?_; rotate_left 2; (· (obtain ⟨m, y1, y2, hv, h7, _⟩ : DoV w3.heap.size gm t v6 w' := hf 6 (by decide) _ rfl; subst hv; go_simp; first | done | with_reducible rfl)); (· (simp only [Act.put, List.setIfInBounds_toArray, List.set_cons_zero, List.set_cons_succ]; first | done | rfl)))
      (refine' Sq.anyX (f := _) (by rfl) (by rfl) (by rfl) (by rfl) (fun w' hR hf => ?_) (fun v => ?_) (fun v9 => ?_); (· (obtain ⟨m, y1, y2, hv, _, h9, _⟩ : DoV w3.heap.size gm t v6 w' := hf 6 (by decide) _ rfl; subst hv; refine wp_run (v := y1) (by rfl) ?_; exact ⟨rfl, Rb.refl _, h9⟩)); rotate_left 1; (· (simp only [Act.put, List.setIfInBounds_toArray, List.set_cons_zero, List.set_cons_succ]; first | done | rfl)))
      (refine' Sq.anyX (f := _) (by rfl) (by rfl) (by rfl) (by rfl) (fun w' hR hf => ?_) (fun v => ?_) (fun v10 => ?_); (· (obtain ⟨m, y1, y2, hv, _, _, h10⟩ : DoV w3.heap.size gm t v6 w' := hf 6 (by decide) _ rfl; subst hv; refine wp_run (v := y2) (by rfl) ?_; exact ⟨rfl, Rb.refl _, h10⟩)); rotate_left 1; (· (simp only [Act.put, List.setIfInBounds_toArray, List.set_cons_zero, List.set_cons_succ]; first | done | rfl)))
      (refine' Sq.anyX (f := _) (by rfl) (by rfl) (by rfl) (by rfl) (fun w' hR hf => ?_) (fun v => ?_) (fun v11 => ?_); (· (refine wp_alloc_blk 58 rfl z58 [.int .i64 0, .slice none 0 0] rfl info58z ?_; intro w1 hk1 hk2; exact ⟨rfl, hk2, _, rfl, (rv_below hR).size, hk1⟩)); rotate_left 1; (· (simp only [Act.put, List.setIfInBounds_toArray, List.set_cons_zero, List.set_cons_succ]; first | done | rfl)))
      (refine' Sq.store (by rfl) (by rfl) (by rfl) (by rfl) (fun w' hR hf => ?_) ?_; (· (obtain ⟨q, hq, hqB, hbq⟩ : ∃ q, v11 = .pointer (some ⟨q, 0, none⟩) ∧ w3.heap.size ≤ q ∧ Blk w' q 58 #[.int .i64 0, .slice none 0 0] := hf 11 (by decide) _ rfl; subst hq; obtain ⟨A', c', g', hv7, _⟩ : MV w3.heap.size gm t v7 w' := hf 7 (by decide) _ rfl; subst hv7; refine wp_store_blk 58 _ _ rfl q 0 58 [.int .i64 0, .slice none 0 0] [.int .i64 t.size, .slice A' t.offers.length c'] hbq (by kernel_rfl) (by kernel_rfl) (size58' _ _) (by simp) (by simp [Value.oneCell']) ?_; intro w1 hn1 hg1 _; refine ⟨rfl, Rv.store hbq ⟨_, _, _, _, rfl⟩ hqB hg1, ?_⟩; exact ⟨q, t.size, A', _, c', rfl, rfl, hqB, by simpa using hn1⟩)))
      iterate 3 (refine' Sq.det (E := _) (b := _) (by rfl) (by rfl) (by rfl) (fun w' hR hf => ?_) ?_ ?_; rotate_left 2; (· (go_simp; first | done | with_reducible rfl)); (· (simp only [Act.put, List.setIfInBounds_toArray, List.set_cons_zero, List.set_cons_succ]; first | done | rfl)))
      refine Sq.doneX fun w4 hR hp hpc => ?_
      have h7 : MV w3.heap.size gm t v7 w4 := hp 7 (by decide) _ rfl
      have h9 : w4.ownsRow w3.heap.size 43 33 v9 t.res.length (t.res.flatMap resc) := hp 9 (by decide) _ rfl
      have h10 : w4.ownsRow w3.heap.size 37 32 v10 t.ids.length (t.ids.flatMap idc) := hp 10 (by decide) _ rfl
      obtain ⟨q, sz, A', n2, c', e1, e2, hqB, hbq⟩ := hpc 12 (by decide) rfl
      have e1' : v11 = .pointer (some ⟨q, 0, none⟩) := e1
      have e2' : v7 = .agg #[.int .i64 sz, .slice A' n2 c'] := e2
      obtain ⟨A2, c2, g', e3, hr7, hc7, hg7⟩ := h7
      rw [e2'] at e3
      simp only [Value.agg.injEq, Array.mk.injEq, List.cons.injEq, Value.int.injEq, Value.slice.injEq, true_and, and_true] at e3
      obtain ⟨rfl, rfl, rfl, rfl⟩ := e3
      subst e1' e2'
      have hb4 := rv_below hR
      obtain ⟨A9, c9, rfl⟩ := own_slice h9
      obtain ⟨A10, c10, rfl⟩ := own_slice h10
      have ho1 := below_kept HO1.out hb4
      have ho2 := below_kept HO2.out hb4
      obtain ⟨A1, c1, rfl⟩ := own_slice ho1
      obtain ⟨A3, c3, rfl⟩ := own_slice ho2
      obtain ⟨q1, hr1, _, _⟩ := Rd.own ho1
      obtain ⟨q3, hr3, _, _⟩ := Rd.own ho2
      obtain ⟨q9, hr9, _, _⟩ := Rd.own h9
      obtain ⟨q10, hr10, _, _⟩ := Rd.own h10
      have hlens : t.res.length ≤ lk.length ∧ t.ids.length ≤ lk.length := by rw [HT.out]; exact step_lens _ _ _
      obtain ⟨hl1, hl2⟩ := hlens
      have HR1 := Lib.hid hr1
      have HR3 := Lib.hid hr3
      have HR9 := Lib.hid hr9
      have HR10 := Lib.hid hr10
      have HR7 := Lib.hid hr7
      have HG7 := Lib.hid hg7
      have HQ := Lib.hid hbq
      have HB4 := Lib.hid hb4
      clear hr1 hr3 hr9 hr10 hr7 hg7 hbq ho1 ho2 h9 h10 hp hpc hb4 hR e1 e2
      go_wp2_with (first
        | (go_at_call 18; with_reducible refine (results_any t.res t.res q1 c1 q9 c9 A1 A9 w4 HR1.out HR9.out (by omega) (by omega)).mono ?_; rintro e w5 ⟨he, hb5⟩; rw [decide_eq_true (show t.res = t.res from rfl)] at he; subst he; have HB5 := Lib.hid (HB4.out.trans' hb5); have HB45 := Lib.hid hb5; clear hb5)
        | (go_at_call 26; with_reducible refine (ids_any t.ids t.ids q3 c3 q10 c10 A3 A10 w5 (HR3.out.below HB45.out) (HR10.out.below HB45.out) (by omega) (by omega)).mono ?_; rintro e w6 ⟨he, hb6⟩; rw [decide_eq_true (show t.ids = t.ids from rfl)] at he; subst he; have HB46 := Lib.hid (HB45.out.trans' hb6); clear hb6)
        | (with_reducible refine at_dst 85 ?_; refine wpList_load_cells rfl 58 _ rfl q 0 [.int .i64 t.size, .slice A' t.offers.length c'] rfl _ Try.underlying58 rfl (size58' _ _) (fun j u hu => by rw [Nat.zero_add, (HQ.out.below HB46.out).cell, List.getElem?_toArray]; exact hu) ?_)
        | (with_reducible refine at_store 58 9 ?_; refine wpList_store_blk rfl 58 _ _ rfl w2.heap.size 0 58 [.int .i64 sk, .slice Am lk.length cm] [.int .i64 t.size, .slice A' t.offers.length c'] ((HM3.out.below HB4.out).below HB46.out) rfl rfl (size58' _ _) (by simp) (by simp [Value.oneCell']) ?_; intro w7 hn7 hg7 _; have HN7 := Lib.hid hn7; have HG7' := Lib.hid hg7; clear hn7 hg7))
      go_roundw
      case rel =>
        have hmb := (HM3.out.below HB4.out).below HB46.out
        have hw6 := (HW3.out.below HB4.out).below HB46.out
        have hz := HZ2.out
        have hz3 := HB3.out.size
        have hsz := step_sz (l := lk) (o := l[k]) HS.out.s1 HS.out.s2
        have hok := okL_step (s := sk) (o := l[k]) HS.out.ok
        have hln := len_step sk lk l[k]
        have hnd := ndL_step (s := sk) (o := l[k]) HS.out.nd
        rw [← HT.out] at hsz hok hln hnd
        refine ⟨k + 1, t.size, t.offers, g3, g', A', c', by omega, by go_num, by omega, win_grown58 hw6 hgb3 hmb HG7'.out, hgb3, hok, hnd, by simpa using HN7.out, rd_grown58 (HR7.out.below HB46.out) hmb HG7'.out, hc7, ?_, ((HRES3.out.below HB4.out).below HB46.out).grown HG7'.out (by simp; omega), hsz.1, hsz.2, HS.out.lb, HS.out.lm, HS.out.lr, HS.out.mr, ?_⟩
        · rcases HG7.out with h | h
          · rw [h]; exact HS.out.gmb
          · have := HW3.out.cells.1; omega
        · have h4 := (HB3.out.trans (HB4.out.mono hz3)).trans (HB46.out.mono (Nat.le_trans hz3 HB4.out.size))
          exact h4.grown HG7'.out h4.size (fun x hx => by simp at hx; omega)
      case measure => simp [intOf]; omega
    · obtain rfl : k = l.length := by omega
      go_wp2_with fail
      refine wp_region_seq (nt := 88) (by kernel_rfl) [0,1,2] [3,4] Rb Rb.refl Rb.trans [] (by kernel_rfl) (by simp) rfl (by kernel_rfl) (by simp) trivial ?_
      (refine' Sq.det (E := _) (b := _) (by rfl) (by rfl) (by rfl) (fun w' hR hf => ?_) ?_ ?_; rotate_left 2; (· (go_simp; first | done | with_reducible rfl)); (· (simp only [Act.put, List.setIfInBounds_toArray, List.set_cons_zero, List.set_cons_succ]; first | done | rfl)))
      (refine' Sq.det (E := _) (b := _) (by rfl) (by rfl) (by rfl) (fun w' hR hf => ?_) ?_ ?_; rotate_left 2; (· (refine exec_load_cells 58 _ w2.heap.size 0 [.int .i64 sk, .slice Am lk.length cm] ?_ _ Try.underlying58 rfl (size58' _ _) (fun j u hu => ?_); (· kernel_rfl); (rw [Nat.zero_add, (HS.out.m.below (below_undrew hR)).cell, List.getElem?_toArray]; exact hu))); (· (simp only [Act.put, List.setIfInBounds_toArray, List.set_cons_zero, List.set_cons_succ]; first | done | rfl)))
      (refine' Sq.det (E := _) (b := _) (by rfl) (by rfl) (by rfl) (fun w' hR hf => ?_) ?_ ?_; rotate_left 2; (· (go_simp; first | done | with_reducible rfl)); (· (simp only [Act.put, List.setIfInBounds_toArray, List.set_cons_zero, List.set_cons_succ]; first | done | rfl)))
      refine Sq.tail2 (by rfl) (by rfl) fun w3 hR _ => ?_
      have HS3 := Lib.hid (HS.out.below_ (below_undrew hR))
      clear hR
      refine wpList_store_blk rfl 58 _ _ rfl w.heap.size 0 58 [.int .i64 0, .slice none 0 0] [.int .i64 sk, .slice Am lk.length cm] HS3.out.res (by kernel_rfl) (by kernel_rfl) (size58' _ _) (by simp) (by simp [Value.oneCell']) ?_
      intro w9 hn9 hg9 _
      have hr0 := hn9.cell 0
      have hr1 := hn9.cell 1
      simp only [List.getElem?_toArray, List.take_zero, List.nil_append, List.length_cons, List.length_nil, Nat.zero_add, List.drop_succ_cons, List.drop_zero, List.append_nil, List.cons_append, List.getElem?_cons_succ, List.getElem?_cons_zero] at hr0 hr1
      have HG9 := Lib.hid hg9
      clear hn9 hg9
      go_wp2_with fail
      refine bodyPost_ret (v := .tuple #[.pointer (some ⟨w.heap.size + 1, 0, none⟩), .agg #[.int .i64 sk, .slice Am lk.length cm], .bool true]) (by simp [results, Try.results24, go_sem, hr0, hr1]) rfl ?_
      exact ⟨w.heap.size + 1, gw, gm, sk, lk, Am, cm, rfl, win_grown58 HS3.out.win HS3.out.gwb HS3.out.res HG9.out, HS3.out.gwb, HS3.out.ok, HS3.out.nd, by omega, rd_grown58 HS3.out.rd HS3.out.res HG9.out, HS3.out.lc, HS3.out.gmb, HS3.out.s1, HS3.out.s2, HS3.out.lb, HS3.out.below.grown HG9.out HS3.out.below.size (fun x hx => by simp at hx; omega)⟩
end Go.Proofs.Ytbcejdmgdgghfaa
