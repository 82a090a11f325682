/- The row's last step of a law over a call of which 'Below' alone is known; arguments that hold whole numbers alone, opened. No condition. -/
import Derived.Below
import Derived.ChangeSame
import Derived.Test.YtnddahajfcmkiaaRows
import Derived.Test.YtnddahajfcmkiaaMem
import Derived.Carry
import Derived.Deep.Slices
import Derived.DataReads
import Derived.WalkKit
import Derived.ProofKit
import Derived.OpenShut
namespace Go.Proofs.Ytnddahajfcmkiaa
set_option linter.unusedSimpArgs false
set_option linter.unusedVariables false
set_option linter.unnecessarySimpa false
open Go.RowKit Go.WideShapes Go.ChangeShapes
section
variable {H : Type} {enc : TypeId × Value → H} {P : Program}
theorem post_of_below {f : Func} {s : ChangeSpec} {apart fresh handsOn again : Bool} {W W' : World} {args : Array Value} {v : Value} {ds gs : List (DataW H)} {before pa pv : List MemPlace}
    (hW : DataW.Whole enc P f.params.toList s.vars apart W args.toList ds gs before)
    (hres : ∀ (b : Nat) (sp : Nat → Bool) (hd : Bool), DataW.TrodAll enc P W' b sp hd f.resultTypes.toList (v.resultList f.resultTypes.size) (s.fn H (ds ++ gs)).results [])
    (hargs : ∀ sp : Nat → Bool, (∀ p ∈ before, sp p.block = true) → DataW.TrodAll enc P W' 0 sp true f.params.toList args.toList (s.fn H (ds ++ gs)).args pa)
    (hvars : ∀ sp : Nat → Bool, (∀ p ∈ before, sp p.block = true) → DataW.TrodVars enc P W' sp s.vars (s.fn H (ds ++ gs)).vars pv)
    (hps : before = pa ++ pv) (hb : Below W.heap.size W W')
    (hok : ∀ (j : Nat) (t : TypeId) (r : Value), f.resultTypes[j]? = some t → (v.resultList f.resultTypes.size)[j]? = some r → Value.okWide P W' .any 0 t r) :
    s.post enc P f apart fresh handsOn again W args v W' := by
  have hlt : ∀ p ∈ before, p.block < W.heap.size := fun p hp => hW.lt p hp
  have hold : ∀ p ∈ before, (fun b => decide (b < W.heap.size)) p.block = true := fun p hp => by simpa using hlt p hp
  refine ⟨ds, gs, before, [], pa, pv, hW, hres _ _ _, hargs _ hold, hvars _ hold, World.keptBut_mono (fun p hp => ⟨hp, ?_⟩) (hb.frame (· ∈ before)), fun _ => ?_⟩
  · rw [hps, List.mem_append] at hp
    exact Or.inr hp
  · obtain ⟨_, _, _, _, _, hz, hn⟩ := hW
    refine ⟨hok, _, _, ([] ++ pa) ++ pv, ⟨[] ++ pa, pv, trodAll_append (hargs _ (fun _ _ => rfl)) (hres _ _ _), hvars _ (fun _ _ => rfl), rfl, ?_, ?_⟩, ?_⟩
    · intro b off hp
      have hin : MemPlace.cell b off ∈ before := by rw [hps]; simpa using hp
      rw [hb.frozen (hlt _ hin)]
      exact hz b off hin
    · intro ha
      have := hn ha
      rw [hps] at this
      simpa using this
    · intro p hp _
      rw [hps]
      simpa using hp
end

/-! ### the arguments read again, whatever they are -/
theorem below_trodAll {H : Type} {enc : TypeId × Value → H} {P : Program} (hl : laidOutB P = true) {W W' : World} (hb : Below W.heap.size W W') (sp : Nat → Bool) : ∀ {ts : List TypeId} {vs : List Value} {ds : List (DataW H)} {ps : List MemPlace},
    (ts.all fun t => P.readableRec t && decide (t < P.types.size)) = true → DataW.TrodAll enc P W 0 (fun _ => true) true ts vs ds ps → (∀ x ∈ ps, x.block < W.heap.size) → (∀ x ∈ ps, sp x.block = true) →
    DataW.TrodAll enc P W' 0 sp true ts vs ds ps
  | [], vs, ds, ps, _, h, _, _ => by
    obtain ⟨rfl, rfl, rfl⟩ := trodAll_nil h
    exact trodAll_mk0
  | t :: ts, vs, ds, ps, ht, h, hp, hs => by
    obtain ⟨v, vs', d, ds', p, q, rfl, rfl, rfl, h1, h2⟩ := trodAll_cons h
    simp only [List.all_cons, Bool.and_eq_true, decide_eq_true_eq] at ht
    exact trodAll_cons_mk (WideElems.Trod_stays hl ht.1.1 ht.1.2 h1 (fun x hx => hb.same (hp x (by simp [hx]))) (fun x hx => hs x (by simp [hx]))) (below_trodAll hl hb sp (by simpa using ht.2) h2 (fun x hx => hp x (by simp [hx])) fun x hx => hs x (by simp [hx]))
/-- the whole last step of a law: the call has returned true, and below the heap's old size nothing has turned -/
theorem law_post {H : Type} {enc : TypeId × Value → H} {P : Program} {f : Func} {s : ChangeSpec} {apart fresh handsOn again : Bool} {W W' : World} {args : Array Value} {ds gs : List (DataW H)} {before : List MemPlace} {tb : TypeId}
    (hW : DataW.Whole enc P f.params.toList s.vars apart W args.toList ds gs before) (hv : s.vars = []) (hf : s.fn H ds = { results := [.lit (.bool true)], args := ds })
    (hT : (f.params.toList.all fun t => P.readableRec t && decide (t < P.types.size)) = true) (hl : laidOutB P = true) (hr : f.resultTypes = #[tb]) (hub : P.underlying tb = some .bool) (hb : Below W.heap.size W W') :
    s.post enc P f apart fresh handsOn again W args (.bool true) W' := by
  have hlt : ∀ x ∈ before, x.block < W.heap.size := fun x hx => hW.lt x hx
  have hW' := hW
  obtain ⟨p, q, hA, hV, rfl, _, _⟩ := hW
  rw [hv] at hV
  obtain ⟨rfl, rfl⟩ := trodVars_none hV
  have hrl : (Value.bool true).resultList f.resultTypes.size = [.bool true] := by rw [hr]; rfl
  have hf' : s.fn H (ds ++ []) = { results := [.lit (.bool true)], args := ds } := by rw [List.append_nil]; exact hf
  refine post_of_below (pa := p) (pv := []) hW' (fun b sp hd => ?_) (fun sp hsp => ?_) (fun sp _ => ?_) rfl hb (ok_one hr rfl (okWide_bool_mk hub _))
  · rw [hf', hrl, hr]
    exact trodAll_mk1 (shut_bool hub true)
  · rw [hf']
    exact below_trodAll hl hb sp hT hA (fun x hx => hlt x (by simp [hx])) (fun x hx => hsp x (by simp [hx]))
  · rw [hf', hv]
    rfl

/-! ### cells that are whole numbers of given kinds -/
def Ints : List IntKind → List Value → Prop
  | [], [] => True
  | k :: ks, v :: vs => (∃ n, v = .int k n ∧ (Lit.int k n).wf = true) ∧ Ints ks vs
  | _, _ => False
theorem Ints.len : ∀ {ks : List IntKind} {cs : List Value}, Ints ks cs → cs.length = ks.length
  | [], [], _ => rfl
  | k :: ks, v :: vs, h => by simp [Ints.len h.2]
  | [], v :: vs, h => h.elim
  | k :: ks, [], h => h.elim
theorem Ints.app : ∀ {ks ks' : List IntKind} {cs cs' : List Value}, Ints ks cs → Ints ks' cs' → Ints (ks ++ ks') (cs ++ cs')
  | [], _, [], _, _, h => h
  | k :: ks, _, v :: vs, _, h, h' => ⟨h.1, Ints.app h.2 h'⟩
  | [], _, v :: vs, _, h, _ => h.elim
  | k :: ks, _, [], _, h, _ => h.elim
theorem Ints.split : ∀ {ks ks' : List IntKind} {cs : List Value}, Ints (ks ++ ks') cs → ∃ a b, cs = a ++ b ∧ Ints ks a ∧ Ints ks' b
  | [], _, cs, h => ⟨[], cs, rfl, trivial, h⟩
  | k :: ks, ks', v :: vs, h => by
    obtain ⟨a, b, rfl, h1, h2⟩ := Ints.split (ks := ks) h.2
    exact ⟨v :: a, b, rfl, ⟨h.1, h1⟩, h2⟩
  | k :: ks, _, [], h => h.elim
/-- the kinds of a type's cells, where it holds whole numbers alone -/
def flatK (P : Program) : Nat → TypeId → Option (List IntKind)
  | 0, _ => none
  | n + 1, t =>
    match P.underlying t with
    | some (.int k) => some [k]
    | some (.array m e) => (flatK P n e).bind fun ks => if ks.length = P.cellsOf e ∧ P.cellsOf t = m * P.cellsOf e then some (List.replicate m ks).flatten else none
    | some (.struct fs) => (fieldsK (flatK P n) P.cellsOf 0 fs.toList).bind fun ks => if P.cellsOf t = ks.length then some ks else none
    | _ => none
where fieldsK (r : TypeId → Option (List IntKind)) (c : TypeId → Nat) : Nat → List Field → Option (List IntKind)
  | _, [] => some []
  | off, f :: fs => (r f.type).bind fun ks => if f.offset = off ∧ ks.length = c f.type then (fieldsK r c (off + ks.length) fs).map (ks ++ ·) else none
theorem mapM_all {α β : Type} {f : α → Option β} : ∀ {l : List α} {ys : List β}, l.mapM f = some ys → ∀ x ∈ l, ∃ y, f x = some y
  | [], _, _, x, hx => by cases hx
  | a :: l, ys, h, x, hx => by
    rw [List.mapM_cons] at h
    simp only [bind, Option.bind_eq_some_iff, pure, Option.some.injEq] at h
    obtain ⟨y, hy, zs, hz, _⟩ := h
    rcases List.mem_cons.1 hx with rfl | hx
    · exact ⟨y, hy⟩
    · exact mapM_all hz x hx
theorem ints_rep {ks : List IntKind} {c : Nat} (hc : ks.length = c) : ∀ (m : Nat) (cs : List Value), cs.length = m * c → (∀ i, i < m → Ints ks ((cs.drop (i * c)).take c)) → Ints (List.replicate m ks).flatten cs
  | 0, cs, hl, _ => by
    have : cs = [] := List.eq_nil_of_length_eq_zero (by simpa using hl)
    subst this; exact trivial
  | m + 1, cs, hl, h => by
    rw [List.replicate_succ, List.flatten_cons, ← List.take_append_drop c cs]
    refine Ints.app (by simpa using h 0 (by omega)) (ints_rep hc m _ (by rw [List.length_drop, hl, Nat.add_mul]; omega) fun i hi => ?_)
    have := h (i + 1) (by omega)
    rw [List.drop_drop]
    rwa [Nat.add_mul, Nat.one_mul, Nat.add_comm] at this
theorem flat_trod {H : Type} {enc : TypeId × Value → H} {P : Program} {w : World} {base : Nat} {sp : Nat → Bool} {held : Bool} : ∀ (n : Nat) (t : TypeId) (ks : List IntKind), flatK P n t = some ks → ∀ (m : Nat) (cs : List Value) (x : DataW H × List MemPlace), DataW.trod enc P w base sp held m t cs = some x → Ints ks cs
  | 0, t, ks, h, _, _, _, _ => by simp [flatK] at h
  | n + 1, t, ks, h, m, cs, x, hx => by
    cases m with
    | zero => simp [DataW.trod] at hx
    | succ m =>
      unfold flatK at h
      split at h
      · rename_i k hk
        injection h with h
        subst h
        obtain ⟨z, rfl, _, hw⟩ := DataW.trod_int hk hx
        exact ⟨⟨z, rfl, hw⟩, trivial⟩
      · rename_i q e hk
        simp only [Option.bind_eq_some_iff] at h
        obtain ⟨ks', h1, h2⟩ := h
        split at h2
        · rename_i hc
          injection h2 with h2
          subst h2
          rw [DataW.trod_step] at hx
          unfold DataW.trodStep at hx
          simp only [hk] at hx
          split at hx
          · rename_i hl
            simp only [Option.map_eq_some_iff] at hx
            obtain ⟨ys, hy, _⟩ := hx
            refine ints_rep hc.1 q cs (hl.trans hc.2) fun i hi => ?_
            obtain ⟨y, hy'⟩ := mapM_all hy i (List.mem_range.2 hi)
            exact flat_trod n e ks' h1 m _ y hy'
          · cases hx
        · cases h2
      · rename_i fs hk
        simp only [Option.bind_eq_some_iff] at h
        obtain ⟨ks', h1, h2⟩ := h
        split at h2
        · rename_i hc
          injection h2 with h2
          subst h2
          rw [DataW.trod_step] at hx
          unfold DataW.trodStep at hx
          simp only [hk] at hx
          split at hx
          · rename_i hl
            simp only [Option.map_eq_some_iff] at hx
            obtain ⟨ys, hy, _⟩ := hx
            have key : ∀ (l : List Field) (off : Nat) (ks : List IntKind), flatK.fieldsK (flatK P n) P.cellsOf off l = some ks → (∀ f ∈ l, f ∈ fs.toList) → Ints ks ((cs.drop off).take ks.length) := by
              intro l
              induction l with
              | nil =>
                intro off ks h _
                simp only [flatK.fieldsK, Option.some.injEq] at h
                subst h; simp [Ints]
              | cons f l ih =>
                intro off ks h hm
                simp only [flatK.fieldsK, Option.bind_eq_some_iff] at h
                obtain ⟨k1, h1, h2⟩ := h
                split at h2
                · rename_i hc
                  simp only [Option.map_eq_some_iff] at h2
                  obtain ⟨k2, h2, rfl⟩ := h2
                  obtain ⟨y, hy'⟩ := mapM_all hy f (hm f (by simp))
                  have a1 := flat_trod n f.type k1 h1 m _ y hy'
                  have a2 := ih _ k2 h2 fun g hg => hm g (by simp [hg])
                  rw [hc.1, ← hc.2] at a1
                  rw [← List.drop_drop] at a2
                  rw [List.length_append, List.take_add]
                  exact Ints.app a1 a2
                · cases h2
            have := key fs.toList 0 ks' h1 fun f hf => hf
            rwa [List.drop_zero, ← hc, ← hl, List.take_length] at this
          · cases hx
        · cases h2
      · cases h
/-- a slice that came in, its elements of whole numbers alone: it reads as the list of its elements' cells -/
theorem open_flat {H : Type} {enc : TypeId × Value → H} {P : Program} {w : World} {base : Nat} {sp : Nat → Bool} {held : Bool} {t e : TypeId} {v : Value} {d : DataW H} {ps : List MemPlace} {N size : Nat} {ks : List IntKind} (ht : P.underlying t = some (.slice e)) (hk : flatK P N e = some ks) (hc : P.cellsOf e = size) (hks : 0 < ks.length)
    (h : DataW.Trod enc P w base sp held t v d ps) : ∃ A n c g, ∃ es : List (List Value), v.cells.toList = [.slice A n c] ∧ es.length = n ∧ n ≤ c ∧ c ≤ maxLen ∧ (∀ x ∈ es, Ints ks x) ∧ (0 < n → ∃ off, A = some ⟨g, off, none⟩ ∧ ∀ i x, es[i]? = some x → ∀ j u, x[j]? = some u → w.cell? ⟨g, off + i * size + j, none⟩ = some u) := by
  obtain ⟨fuel, hf⟩ := h
  rcases Go.Deep.open_slice ht hf with ⟨h1, _⟩ | ⟨a, len, cap, m, n, D, Pl, h1, _, hl, hm, hmm, _, hx⟩
  · exact ⟨none, 0, 0, 0, [], h1, rfl, Nat.le_refl _, by simp [maxLen], by simp, fun h => absurd h (by omega)⟩
  · have hlm : len ≤ m := by rw [hmm]; split <;> omega
    have hall : ∀ i, i < len → ∃ x, Ints ks x ∧ ∀ j u, x[j]? = some u → w.cell? ((a.add (i * size)).add j) = some u := by
      intro i hi
      obtain ⟨cs', h2, h3⟩ := hx i (by omega)
      obtain ⟨_, hlen, hcell⟩ := World.cells?_some h2
      rw [hc] at hcell hlen
      refine ⟨cs', flat_trod N e ks hk n cs' _ h3, fun j u hu => ?_⟩
      have hj : j < size := by
        have := (List.getElem?_eq_some_iff.1 hu).1
        omega
      rw [hcell j hj, hu]
    have hes : ∀ k, k ≤ len → ∃ es : List (List Value), es.length = k ∧ (∀ x ∈ es, Ints ks x) ∧ ∀ i x, es[i]? = some x → ∀ j u, x[j]? = some u → w.cell? ((a.add (i * size)).add j) = some u := by
      intro k
      induction k with
      | zero => exact fun _ => ⟨[], rfl, by simp, by simp⟩
      | succ k ih =>
        intro hk'
        obtain ⟨es, e1, e2, e3⟩ := ih (by omega)
        obtain ⟨x, x1, x2⟩ := hall k (by omega)
        refine ⟨es ++ [x], by simp [e1], fun y hy => ?_, fun i y hy => ?_⟩
        · rcases List.mem_append.1 hy with hy | hy
          · exact e2 y hy
          · obtain rfl : y = x := by simpa using hy
            exact x1
        · by_cases hi : i < es.length
          · rw [List.getElem?_append_left hi] at hy
            exact e3 i y hy
          · rw [List.getElem?_append_right (by omega)] at hy
            have hi' : i - es.length = 0 := by
              have := (List.getElem?_eq_some_iff.1 hy).1
              simp at this; omega
            rw [hi'] at hy
            obtain rfl : x = y := by simpa using hy
            obtain rfl : i = k := by omega
            exact x2
    obtain ⟨es, e1, e2, e3⟩ := hes len (Nat.le_refl _)
    refine ⟨some a, len, cap, a.block, es, h1, e1, hl, hm, e2, fun hp => ?_⟩
    have h0 : 0 < es.length := by omega
    have h00 := (e2 es[0] (List.getElem_mem h0)).len
    obtain ⟨b, off, spot⟩ := a
    have hspot : spot = none := by
      have := World.cell?_spot (e3 0 es[0] (List.getElem?_eq_getElem h0) 0 es[0][0] (List.getElem?_eq_getElem (by omega)))
      simpa [Addr.add] using this
    subst hspot
    refine ⟨off, rfl, fun i x hi j u hu => ?_⟩
    have := e3 i x hi j u hu
    rwa [Addr.add_lit, Addr.add_lit] at this
end Go.Proofs.Ytnddahajfcmkiaa
