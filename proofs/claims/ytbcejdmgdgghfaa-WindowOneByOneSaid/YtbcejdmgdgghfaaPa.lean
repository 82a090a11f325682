/- WindowOneByOne, the plain law: whatever the order of the answers, the results are those of offers made one by one. Conditions: none. -/
import Derived.Test.YtbcejdmgdgghfaaOa
namespace Go.Proofs.Ytbcejdmgdgghfaa
set_option linter.unusedSimpArgs false
set_option linter.unusedVariables false
set_option linter.unnecessarySimpa false
open Go.RowKit

structure Of where
  first : UInt8
  then_ : UInt8
instance : Inhabited Of := ⟨⟨0, 0⟩⟩
def firstOf (o : Of) : Int := if o.first.toNat % 4 = 0 then 1 else if o.first.toNat % 4 = 1 then 3 else if o.first.toNat % 4 = 2 then 4 else 5
def thenOf (o : Of) : Int := if o.then_.toNat % 3 = 0 then 2 else if o.then_.toNat % 3 = 1 then 4 else 5
def ansOf (o : Of) : List Int := if firstOf o = 1 then [1, thenOf o] else [firstOf o]
def finOf (o : Of) : Int := if firstOf o = 1 then thenOf o else firstOf o
def oc (o : Of) (k : Nat) : Int := if k = 0 then 0 else (ansOf o).getD (k - 1) 0
theorem firstOf_cases (o : Of) : firstOf o = 1 ∨ firstOf o = 3 ∨ firstOf o = 4 ∨ firstOf o = 5 := by unfold firstOf; split <;> (try split) <;> (try split) <;> simp
theorem thenOf_cases (o : Of) : thenOf o = 2 ∨ thenOf o = 4 ∨ thenOf o = 5 := by unfold thenOf; split <;> (try split) <;> simp
theorem ansOf_len (o : Of) : 1 ≤ (ansOf o).length ∧ (ansOf o).length ≤ 2 := by unfold ansOf; split <;> simp
/-- the states of an offer -/
theorem oc_out (o : Of) (k : Nat) (hk : k ≤ (ansOf o).length) (i : Id) : outB ⟨i, 10, oc o k⟩ = decide (k < (ansOf o).length) := by
  have hf := firstOf_cases o
  have ht := thenOf_cases o
  unfold oc ansOf at *
  by_cases h1 : firstOf o = 1
  · simp only [h1, if_true, List.length_cons, List.length_nil] at hk ⊢
    match k, hk with
    | 0, _ => simp [outB]
    | 1, _ => simp [outB]
    | 2, _ => simp [outB]; omega
  · simp only [h1, if_false, List.length_cons, List.length_nil] at hk ⊢
    match k, hk with
    | 0, _ => simp [outB]
    | 1, _ => simp [outB]; omega
theorem oc_fin (o : Of) : oc o (ansOf o).length = finOf o := by
  unfold oc ansOf finOf
  split <;> simp
theorem oc_next (o : Of) (k : Nat) (hk : k < (ansOf o).length) : possB (oc o k) ((ansOf o).getD k 0) = true ∧ 1 ≤ (ansOf o).getD k 0 ∧ (ansOf o).getD k 0 ≤ 5 ∧ oc o (k + 1) = (ansOf o).getD k 0 := by
  have hf := firstOf_cases o
  have ht := thenOf_cases o
  unfold oc ansOf at *
  by_cases h1 : firstOf o = 1
  · simp only [h1, if_true, List.length_cons, List.length_nil] at hk ⊢
    match k, hk with
    | 0, _ => simp [possB]
    | 1, _ =>
      rcases ht with h | h | h <;> simp [possB, h]
  · simp only [h1, if_false, List.length_cons, List.length_nil] at hk ⊢
    match k, hk with
    | 0, _ =>
      rcases hf with h | h | h | h
      · exact absurd h h1
      all_goals simp [possB, h]

def idN (i : Nat) : Id := idOf (UInt8.ofNat i)
theorem idN_inj {i j : Nat} (hi : i < 256) (hj : j < 256) (h : idN i = idN j) : i = j := by
  have hb := congrArg Id.bytes h
  simp only [idN, idOf, List.cons.injEq] at hb
  have := congrArg UInt8.toNat hb.1
  simp at this
  omega
def ent (l : List Of) (said : List Nat) (i : Nat) : Ofr := ⟨idN i, 10, oc (l.getD i default) (said.getD i 0)⟩
def winL (l : List Of) (said : List Nat) : Nat → Nat → List Ofr
  | _, 0 => []
  | d, m + 1 => ent l said d :: winL l said (d + 1) m
def resN (l : List Of) (i : Nat) : Res := ⟨idN i, finOf (l.getD i default)⟩
def gotL (l : List Of) (d : Nat) : List Res := (List.range d).map (resN l)
structure Sim (l : List Of) (said : List Nat) (d m : Nat) : Prop where
  len : said.length = l.length
  nl : d + m ≤ l.length
  n60 : l.length ≤ 60
  le : ∀ i, i < l.length → said.getD i 0 ≤ (ansOf (l.getD i default)).length
  lo : ∀ i, i < d → said.getD i 0 = (ansOf (l.getD i default)).length
  hi : ∀ i, d + m ≤ i → said.getD i 0 = 0

theorem winL_len (l : List Of) (said : List Nat) : ∀ (m d : Nat), (winL l said d m).length = m
  | 0, _ => rfl
  | m + 1, d => by simp [winL, winL_len l said m]
theorem winL_get (l : List Of) (said : List Nat) : ∀ (m d j : Nat) (h : j < m), (winL l said d m)[j]'(by rw [winL_len]; exact h) = ent l said (d + j)
  | m + 1, d, 0, _ => rfl
  | m + 1, d, j + 1, h => by
    simp only [winL, List.getElem_cons_succ]
    rw [winL_get l said m (d + 1) j (by omega)]
    congr 1; omega
theorem winL_snoc (l : List Of) (said : List Nat) : ∀ (m d : Nat), winL l said d (m + 1) = winL l said d m ++ [ent l said (d + m)]
  | 0, d => rfl
  | m + 1, d => by
    show ent l said d :: winL l said (d + 1) (m + 1) = ent l said d :: (winL l said (d + 1) m ++ [ent l said (d + (m + 1))])
    rw [winL_snoc l said m (d + 1), show d + 1 + m = d + (m + 1) by omega]
theorem oc_bd (o : Of) (k : Nat) : 0 ≤ oc o k ∧ oc o k ≤ 5 := by
  have hf := firstOf_cases o
  have ht := thenOf_cases o
  unfold oc ansOf
  split
  · omega
  · split
    · generalize k - 1 = j
      match j with
      | 0 => simp
      | 1 => simp; omega
      | j + 2 => simp
    · generalize k - 1 = j
      match j with
      | 0 => simp; omega
      | j + 1 => simp
theorem ok_winL {l : List Of} {said : List Nat} : ∀ {m d : Nat}, OkL (winL l said d m)
  | 0, _ => fun o h => by cases h
  | m + 1, d => fun o h => by
    rcases List.mem_cons.1 h with rfl | h
    · exact oc_bd _ _
    · exact ok_winL o h

/-- what Settled takes -/
theorem sim_settled {l : List Of} {said : List Nat} : ∀ {m d : Nat}, Sim l said d m → ∃ q, q ≤ m ∧ nset (winL l said d m) = q ∧ gotL l d ++ settled (winL l said d m) = gotL l (d + q) ∧ (winL l said d m).drop (nset (winL l said d m)) = winL l said (d + q) (m - q) ∧ Sim l said (d + q) (m - q)
  | 0, d, h => ⟨0, Nat.le_refl _, rfl, by simp [winL, settled, nset], by simp [winL], h⟩
  | m + 1, d, h => by
    have hdl : d < l.length := by have := h.nl; omega
    have ho := oc_out (l.getD d default) (said.getD d 0) (h.le d hdl) (idN d)
    by_cases hlt : said.getD d 0 < (ansOf (l.getD d default)).length
    · have hx : outB (ent l said d) = true := by unfold ent; rw [ho]; simpa using hlt
      have hn : nset (winL l said d (m + 1)) = 0 := by simp [winL, nset, hx]
      exact ⟨0, Nat.zero_le _, hn, by simp [settled, hn], by rw [hn]; rfl, h⟩
    · have heq : said.getD d 0 = (ansOf (l.getD d default)).length := by have := h.le d hdl; omega
      have hx : outB (ent l said d) = false := by unfold ent; rw [ho]; simpa using hlt
      have hn : nset (winL l said d (m + 1)) = nset (winL l said (d + 1) m) + 1 := by simp [winL, nset, hx]
      have h' : Sim l said (d + 1) m := ⟨h.len, by have := h.nl; omega, h.n60, h.le, fun i hi => by
        by_cases hid : i < d
        · exact h.lo i hid
        · obtain rfl : i = d := by omega
          exact heq, fun i hi => h.hi i (by omega)⟩
      obtain ⟨q, hq, hnq, hg, hd, hs⟩ := sim_settled h'
      refine ⟨q + 1, by omega, by omega, ?_, ?_, ?_⟩
      · have e : settled (winL l said d (m + 1)) = resN l d :: settled (winL l said (d + 1) m) := by
          simp only [settled, hn]
          simp only [winL, List.take_succ_cons, List.map_cons, toRes, ent, resN, heq, oc_fin]
        rw [e]
        have e2 : gotL l (d + 1) = gotL l d ++ [resN l d] := by simp [gotL, List.range_succ]
        rw [show d + (q + 1) = d + 1 + q by omega, ← hg, e2]
        simp
      · rw [hn]
        simp only [winL, List.drop_succ_cons]
        rw [hd]
        congr 1 <;> omega
      · rw [show d + (q + 1) = d + 1 + q by omega, show m + 1 - (q + 1) = m - q by omega]; exact hs

theorem mem_winL {l : List Of} {said : List Nat} : ∀ {m d : Nat} {x : Ofr}, x ∈ winL l said d m → ∃ j, j < m ∧ x = ent l said (d + j)
  | m + 1, d, x, h => by
    rcases List.mem_cons.1 h with rfl | h
    · exact ⟨0, by omega, rfl⟩
    · obtain ⟨j, hj, rfl⟩ := mem_winL h
      exact ⟨j + 1, by omega, by congr 1; omega⟩

theorem sim_has {l : List Of} {said : List Nat} {d m : Nat} (h : Sim l said d m) (hn : d + m < l.length) : hasId (winL l said d m) (idN (d + m)) = false := by
  have h60 := h.n60
  unfold hasId
  rw [Bool.eq_false_iff]
  intro hs
  obtain ⟨x, hx⟩ := Option.isSome_iff_exists.1 hs
  have hm := List.mem_of_find?_eq_some hx
  have hp := List.find?_some hx
  obtain ⟨j, hj, rfl⟩ := mem_winL hm
  have hp' : idN (d + j) = idN (d + m) := of_decide_eq_true hp
  have := idN_inj (by omega) (by omega) hp'
  omega
theorem sim_offer {l : List Of} {said : List Nat} {d m : Nat} {s : Int} (h : Sim l said d m) (hn : d + m < l.length) (hb : busyB s (winL l said d m) = false) :
    offE s (winL l said d m) (idN (d + m)) 10 = 0 ∧ offL s (winL l said d m) (idN (d + m)) 10 = winL l said d (m + 1) ∧ Sim l said d (m + 1) := by
  have hh := sim_has h hn
  have hz : badN 10 = false := by decide
  refine ⟨by simp [offE, hh, hz, hb], ?_, ⟨h.len, by omega, h.n60, h.le, h.lo, fun i hi => h.hi i (by omega)⟩⟩
  rw [winL_snoc]
  simp only [offL, hh, hz, hb, Bool.false_eq_true, if_false]
  have e : ent l said (d + m) = ⟨idN (d + m), 10, 0⟩ := by unfold ent oc; rw [h.hi (d + m) (Nat.le_refl _)]; rfl
  rw [e]
theorem sim_busy {l : List Of} {said : List Nat} {d m : Nat} {s : Int} (h : Sim l said d m) (hn : d + m < l.length) (hb : busyB s (winL l said d m) = true) :
    offE s (winL l said d m) (idN (d + m)) 10 = 25 ∧ offL s (winL l said d m) (idN (d + m)) 10 = winL l said d m := by
  have hh := sim_has h hn
  have hz : badN 10 = false := by decide
  exact ⟨by simp [offE, hh, hz, hb], by simp [offL, hh, hz, hb]⟩

/-- an outstanding one -/
theorem sim_out {l : List Of} {said : List Nat} {d m : Nat} (h : Sim l said d m) {q : Nat} (hq : q < (outs (winL l said d m)).length) :
    ∃ i, d ≤ i ∧ i < d + m ∧ (outs (winL l said d m))[q] = idN i ∧ said.getD i 0 < (ansOf (l.getD i default)).length := by
  have hm : (outs (winL l said d m))[q] ∈ outs (winL l said d m) := List.getElem_mem hq
  unfold outs at hm
  obtain ⟨x, hx, he⟩ := List.mem_map.1 hm
  obtain ⟨hx1, hx2⟩ := List.mem_filter.1 hx
  obtain ⟨j, hj, rfl⟩ := mem_winL hx1
  refine ⟨d + j, by omega, by omega, he.symm, ?_⟩
  have hnl := h.nl
  unfold ent at hx2
  rw [oc_out _ _ (h.le (d + j) (by omega))] at hx2
  simpa using hx2
theorem sim_outs_nil {l : List Of} {said : List Nat} {d m : Nat} (h : Sim l said d m) (ho : outs (winL l said d m) = []) : ∀ i, i < d + m → said.getD i 0 = (ansOf (l.getD i default)).length := by
  intro i hi
  by_cases hid : i < d
  · exact h.lo i hid
  · have hnl := h.nl
    have hle := h.le i (by omega)
    have hmem : ent l said i ∈ winL l said d m := by
      have := winL_get l said m d (i - d) (by omega)
      rw [show d + (i - d) = i by omega] at this
      rw [← this]; exact List.getElem_mem _
    have hx : outB (ent l said i) = false := by
      cases hb : outB (ent l said i) with
      | false => rfl
      | true =>
        have : (ent l said i).id ∈ outs (winL l said d m) := List.mem_map.2 ⟨_, List.mem_filter.2 ⟨hmem, hb⟩, rfl⟩
        rw [ho] at this; cases this
    unfold ent at hx
    rw [oc_out _ _ hle] at hx
    have := of_decide_eq_false hx
    omega
theorem getD_set {said : List Nat} {i j : Nat} {x : Nat} (hi : i < said.length) : (said.set i x).getD j 0 = if j = i then x else said.getD j 0 := by
  simp only [List.getD_eq_getElem?_getD, List.getElem?_set]
  by_cases h : i = j
  · subst h; simp [hi]
  · rw [if_neg h, if_neg (fun e => h e.symm)]
theorem winL_set {l : List Of} {said : List Nat} {i x : Nat} (hi : i < said.length) : ∀ (m d : Nat), d ≤ i → i < d + m → winL l (said.set i x) d m = (winL l said d m).set (i - d) { ent l said i with outcome := oc (l.getD i default) x }
  | 0, d, h1, h2 => by omega
  | m + 1, d, h1, h2 => by
    by_cases hd : d = i
    · subst hd
      have hrest : ∀ (m e : Nat), d < e → winL l (said.set d x) e m = winL l said e m := by
        intro m
        induction m with
        | zero => intro e _; rfl
        | succ m ih =>
          intro e he
          simp only [winL]
          rw [ih (e + 1) (by omega)]
          congr 1
          simp only [ent, getD_set hi]
          rw [if_neg (by omega)]
      simp only [winL, Nat.sub_self, List.set_cons_zero]
      rw [hrest m (d + 1) (by omega)]
      congr 1
      simp only [ent, getD_set hi, if_true]
    · have e : i - d = (i - (d + 1)) + 1 := by omega
      simp only [winL]
      rw [e, List.set_cons_succ, winL_set hi m (d + 1) (by omega) (by omega)]
      congr 1
      simp only [ent, getD_set hi]
      rw [if_neg hd]
theorem sim_answer {l : List Of} {said : List Nat} {d m i : Nat} (h : Sim l said d m) (h1 : d ≤ i) (h2 : i < d + m) (hk : said.getD i 0 < (ansOf (l.getD i default)).length) :
    ansE (winL l said d m) (idN i) ((ansOf (l.getD i default)).getD (said.getD i 0) 0) = 0 ∧ ansL (winL l said d m) (idN i) ((ansOf (l.getD i default)).getD (said.getD i 0) 0) = winL l (said.set i (said.getD i 0 + 1)) d m ∧ Sim l (said.set i (said.getD i 0 + 1)) d m := by
  have hnl := h.nl
  have h60 := h.n60
  have hlen := h.len
  obtain ⟨hp, ho1, ho5, hnx⟩ := oc_next _ _ hk
  have hget := winL_get l said m d (i - d) (by omega)
  rw [show d + (i - d) = i by omega] at hget
  have hfind : (winL l said d m).find? (isId (idN i)) = some (ent l said i) ∧ (winL l said d m).findIdx (isId (idN i)) = i - d := by
    rcases idxI_spec (isId (idN i)) (winL l said d m) 0 with ⟨_, hn⟩ | ⟨k, hkl, _, hpk, h3, h4⟩
    · have := List.find?_eq_none.1 hn (ent l said i) (by rw [← hget]; exact List.getElem_mem _)
      simp [isId, ent] at this
    · have hkm : k < m := by rw [winL_len] at hkl; exact hkl
      have hgk := winL_get l said m d k hkm
      rw [hgk] at hpk
      have hp' : idN (d + k) = idN i := of_decide_eq_true hpk
      have := idN_inj (by omega) (by omega) hp'
      have hki : k = i - d := by omega
      subst hki
      exact ⟨by rw [h3, hgk, show d + (i - d) = i by omega], h4⟩
  have hbad : ¬ ((ansOf (l.getD i default)).getD (said.getD i 0) 0 < 1 ∨ 5 < (ansOf (l.getD i default)).getD (said.getD i 0) 0) := by omega
  have hpe : possB (ent l said i).outcome ((ansOf (l.getD i default)).getD (said.getD i 0) 0) = true := hp
  refine ⟨by simp only [ansE, hfind.1, hbad, if_false, hpe, if_true], ?_, ?_⟩
  · simp only [ansL, hfind.1, hfind.2, hbad, if_false, hpe, if_true]
    rw [winL_set (by omega) m d h1 h2, hnx]
  · refine ⟨by simpa using hlen, hnl, h60, fun j hj => ?_, fun j hj => ?_, fun j hj => ?_⟩
    · rw [getD_set (by omega)]
      split
      · rename_i e; subst e; omega
      · exact h.le j hj
    · rw [getD_set (by omega), if_neg (by omega)]; exact h.lo j hj
    · rw [getD_set (by omega), if_neg (by omega)]; exact h.hi j hj

/-! ### how many steps are left -/
def left_ (l : List Of) (said : List Nat) : Nat := ((List.range l.length).map fun i => (ansOf (l.getD i default)).length - said.getD i 0).sum
def meas (l : List Of) (said : List Nat) (next : Nat) : Nat := (l.length - next) + left_ l said
theorem sum_le_mul {f : Nat → Nat} {c : Nat} (h : ∀ i, f i ≤ c) : ∀ (l : List Nat), (l.map f).sum ≤ l.length * c
  | [] => by simp
  | x :: l => by
    have := sum_le_mul h l
    have := h x
    simp only [List.map_cons, List.sum_cons, List.length_cons, Nat.add_mul]; omega
theorem meas_start (l : List Of) (h : l.length ≤ 60) : meas l (List.replicate l.length 0) 0 ≤ 180 := by
  have := sum_le_mul (f := fun i => (ansOf (l.getD i default)).length - (List.replicate l.length 0).getD i 0) (c := 2) (fun i => by have := (ansOf_len (l.getD i default)).2; omega) (List.range l.length)
  unfold meas left_
  simp only [List.length_range] at this
  omega
theorem sum_set {f g : Nat → Nat} {i : Nat} (hi : g i + 1 = f i) (ho : ∀ j, j ≠ i → g j = f j) : ∀ (n : Nat), i < n → ((List.range n).map g).sum + 1 = ((List.range n).map f).sum
  | 0, h => by omega
  | n + 1, h => by
    simp only [List.range_succ, List.map_append, List.sum_append, List.map_cons, List.map_nil, List.sum_cons, List.sum_nil]
    by_cases hin : i = n
    · subst hin
      have e : (List.range i).map g = (List.range i).map f := List.map_congr_left fun j hj => ho j (by have := List.mem_range.1 hj; omega)
      rw [e]; omega
    · have := sum_set hi ho n (by omega)
      rw [ho n (fun e => hin e.symm)]; omega
theorem meas_answer {l : List Of} {said : List Nat} {i next : Nat} (hl : said.length = l.length) (hi : i < l.length) (hk : said.getD i 0 < (ansOf (l.getD i default)).length) : meas l (said.set i (said.getD i 0 + 1)) next + 1 = meas l said next := by
  have := sum_set (f := fun j => (ansOf (l.getD j default)).length - said.getD j 0) (g := fun j => (ansOf (l.getD j default)).length - (said.set i (said.getD i 0 + 1)).getD j 0) (i := i) (by simp only [getD_set (show i < said.length by omega), if_true]; omega) (fun j hj => by simp only [getD_set (show i < said.length by omega), if_neg hj]) l.length hi
  unfold meas left_
  omega
theorem sum_zero {f : Nat → Nat} : ∀ (n : Nat), ((List.range n).map f).sum = 0 → ∀ i, i < n → f i = 0
  | 0, _, i, h => by omega
  | n + 1, h, i, hi => by
    simp only [List.range_succ, List.map_append, List.sum_append, List.map_cons, List.map_nil, List.sum_cons, List.sum_nil] at h
    by_cases hin : i = n
    · subst hin; omega
    · exact sum_zero n (by omega) i (by omega)
theorem sum_zero' {f : Nat → Nat} : ∀ (n : Nat), (∀ i, i < n → f i = 0) → ((List.range n).map f).sum = 0
  | 0, _ => rfl
  | n + 1, h => by
    simp only [List.range_succ, List.map_append, List.sum_append, List.map_cons, List.map_nil, List.sum_cons, List.sum_nil]
    have := sum_zero' n fun i hi => h i (by omega)
    have := h n (by omega)
    omega
theorem meas_idle {l : List Of} {said : List Nat} {d m : Nat} (h : Sim l said d m) (ho : outs (winL l said d m) = []) (hn : d + m = l.length) : meas l said (d + m) = 0 := by
  have := sim_outs_nil h ho
  unfold meas left_
  rw [sum_zero' l.length fun i hi => by rw [this i (by omega)]; omega]
  omega
theorem meas_zero {l : List Of} {said : List Nat} {d m : Nat} (h : Sim l said d m) (hm : meas l said (d + m) = 0) : d + m = l.length ∧ gotL l d ++ settled (winL l said d m) = gotL l l.length ∧ (winL l said d m).drop (nset (winL l said d m)) = [] := by
  have hnl := h.nl
  have hn : d + m = l.length := by unfold meas at hm; omega
  have hz := sum_zero (f := fun i => (ansOf (l.getD i default)).length - said.getD i 0) l.length (by unfold meas left_ at hm; omega)
  have hall : ∀ o ∈ winL l said d m, outB o = false := fun o ho => by
    obtain ⟨j, hj, rfl⟩ := mem_winL ho
    have h1 := hz (d + j) (by omega)
    have h2 := h.le (d + j) (by omega)
    unfold ent
    rw [oc_out _ _ h2]
    have h3 : (ansOf (l.getD (d + j) default)).length - said.getD (d + j) 0 = 0 := h1
    exact decide_eq_false (by omega)
  have hns := nset_final _ hall
  obtain ⟨q, hq, hnq, hg, hd, _⟩ := sim_settled h
  rw [hns, winL_len] at hnq
  subst hnq
  exact ⟨hn, by rw [hg, hn], by rw [hns]; simp⟩
end Go.Proofs.Ytbcejdmgdgghfaa
