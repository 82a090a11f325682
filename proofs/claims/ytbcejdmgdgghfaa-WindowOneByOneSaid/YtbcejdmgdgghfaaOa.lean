/- WindowOnce, the plain law: each offer comes back once, in order. Conditions: none. -/
import Derived.Test.YtbcejdmgdgghfaaWx
import Derived.Test.YtbcejdmgdgghfaaMap
namespace Go.Proofs.Ytbcejdmgdgghfaa
set_option linter.unusedSimpArgs false
set_option linter.unusedVariables false
set_option linter.unnecessarySimpa false
open Go.RowKit

structure OnceI (i : Nat) (made back last : Int) (f : Id → Int) (l : List Ofr) : Prop where
  cnt : made = back + l.length
  ord : (l.map (·.id)).Pairwise (fun a b => f a < f b)
  low : ∀ a ∈ l.map (·.id), last < f a
  hi : ∀ a ∈ l.map (·.id), f a < i
  li : last < i
  mi : made ≤ i
  b0 : 0 ≤ back
  l1 : -1 ≤ last
theorem onceI_nil : OnceI 0 0 0 (-1) (fun _ => 0) [] := ⟨by simp, by simp, by simp, by simp, by omega, by omega, by omega, by omega⟩
def lastAt (f : Id → Int) (last : Int) (rs : List Res) (j : Nat) : Int := if j = 0 then last else f (rs.getD (j - 1) ⟨⟨List.replicate 32 0, by simp⟩, 0⟩).id
theorem lastAt_succ (f : Id → Int) (last : Int) (rs : List Res) (j : Nat) (hj : j < rs.length) : lastAt f last rs (j + 1) = f rs[j].id := by
  unfold lastAt
  simp [List.getD_eq_getElem?_getD, hj]
/-- what a step of the law finds -/
structure OnceS (i : Nat) (made back last : Int) (f : Id → Int) (t : Stp) : Prop where
  res : ∀ j, ∀ hj : j < t.res.length, lastAt f last t.res j < f t.res[j].id ∧ 2 ≤ t.res[j].outcome ∧ t.res[j].outcome ≤ 5
  next : OnceI (i + 1) made (back + t.res.length + t.ids.length) (lastAt f last t.res t.res.length) f t.offers
theorem OnceI.up {i : Nat} {made back last : Int} {f : Id → Int} {l : List Ofr} (h : OnceI i made back last f l) : OnceI (i + 1) made back last f l :=
  ⟨h.cnt, h.ord, h.low, fun a ha => by have := h.hi a ha; omega, by have := h.li; omega, by have := h.mi; omega, h.b0, h.l1⟩
theorem OnceI.ids {i : Nat} {made back last : Int} {f : Id → Int} {l m : List Ofr} (h : OnceI i made back last f l) (hm : m.map (·.id) = l.map (·.id)) : OnceI i made back last f m := by
  have hl : m.length = l.length := by have := congrArg List.length hm; simpa using this
  exact ⟨by rw [hl]; exact h.cnt, by rw [hm]; exact h.ord, by rw [hm]; exact h.low, by rw [hm]; exact h.hi, h.li, h.mi, h.b0, h.l1⟩
theorem ansL_ids (l : List Ofr) (i : Id) (o : Int) : (ansL l i o).map (·.id) = l.map (·.id) := by
  unfold ansL
  split
  · rfl
  · rename_i x hx
    split
    · rfl
    · split
      · rcases idxI_spec (isId i) l 0 with ⟨_, h2⟩ | ⟨k, hkl, _, _, h3, h4⟩
        · rw [h2] at hx; cases hx
        · rw [h3] at hx
          injection hx with hx
          subst hx
          rw [h4, List.map_set]
          apply List.ext_getElem (by simp)
          intro j h1 h2
          rw [List.getElem_set]
          split
          · rename_i e; subst e; simp
          · rfl
      · rfl
theorem once_none {i : Nat} {made back last : Int} {f : Id → Int} {t : Stp} {l : List Ofr} (h : OnceI i made back last f l) (hr : t.res = []) (hi : t.ids = []) (ho : t.offers.map (·.id) = l.map (·.id)) : OnceS i made back last f t := by
  refine ⟨fun j hj => ?_, ?_⟩
  · rw [hr] at hj; simp at hj
  · rw [hr, hi]
    have := (h.ids ho).up
    simpa [lastAt] using this
/-- an offer that is taken -/
theorem once_offer {i : Nat} {made back last s : Int} {f : Id → Int} {l : List Ofr} {o : Op'} (h : OnceI i made back last f l) (hk : knd o = 0) (he : (stepW s l o).err = 0) : OnceS i (made + 1) back last (upd f o.id i) (stepW s l o) := by
  rw [stepW, if_pos hk] at he ⊢
  simp only [offE] at he
  have hb : badN o.n = false := by cases hb : badN o.n <;> simp [hb] at he ⊢
  have hh : hasId l o.id = false := by cases hh : hasId l o.id <;> simp [hb, hh] at he ⊢
  have hz : busyB s l = false := by cases hz : busyB s l <;> simp [hb, hh, hz] at he ⊢
  have hn : l.find? (isId o.id) = none := by simpa [hasId] using hh
  have hne : ∀ a ∈ l.map (·.id), a ≠ o.id := by
    intro a ha e
    obtain ⟨x, hx, rfl⟩ := List.mem_map.1 ha
    have := List.find?_eq_none.1 hn x hx
    simp [isId, e] at this
  have hu : ∀ a ∈ l.map (·.id), upd f o.id i a = f a := fun a ha => by unfold upd; rw [if_neg (hne a ha)]
  have hui : upd f o.id i o.id = i := by unfold upd; rw [if_pos rfl]
  have hoff : offL s l o.id o.n = l ++ [⟨o.id, o.n, 0⟩] := by simp [offL, hb, hh, hz]
  refine ⟨fun j hj => by simp at hj, ?_⟩
  rw [hoff]
  have hmap : (l ++ [(⟨o.id, o.n, 0⟩ : Ofr)]).map (·.id) = l.map (·.id) ++ [o.id] := by simp
  refine ⟨by simp [h.cnt]; omega, ?_, ?_, ?_, by simp [lastAt]; have := h.li; omega, by have := h.mi; omega, by simpa using h.b0, by simp [lastAt]; exact h.l1⟩
  · rw [hmap, List.pairwise_append]
    refine ⟨?_, by simp, ?_⟩
    · refine List.Pairwise.imp_of_mem ?_ h.ord
      intro a b ha hb hab
      rw [hu a ha, hu b hb]; exact hab
    · intro a ha b hb
      obtain rfl : b = o.id := by simpa using hb
      rw [hu a ha, hui]; exact h.hi a ha
  · intro a ha
    rw [hmap] at ha
    simp only [lastAt, List.length_nil, if_true]
    rcases List.mem_append.1 ha with ha | ha
    · rw [hu a ha]; exact h.low a ha
    · obtain rfl : a = o.id := by simpa using ha
      rw [hui]; exact h.li
  · intro a ha
    rw [hmap] at ha
    rcases List.mem_append.1 ha with ha | ha
    · rw [hu a ha]; have := h.hi a ha; omega
    · obtain rfl : a = o.id := by simpa using ha
      rw [hui]; omega
/-- any other step -/
theorem once_other {i : Nat} {made back last s : Int} {f : Id → Int} {l : List Ofr} {o : Op'} (h : OnceI i made back last f l) (hok : OkL l) (hk : ¬ (knd o = 0 ∧ (stepW s l o).err = 0)) : OnceS i made back last f (stepW s l o) := by
  have hkn := knd_lt o
  rcases (by omega : knd o = 0 ∨ knd o = 1 ∨ knd o = 2 ∨ knd o = 3 ∨ knd o = 4) with h0 | h1 | h2 | h3 | h4
  · have he : ¬ (stepW s l o).err = 0 := fun e => hk ⟨h0, e⟩
    rw [stepW, if_pos h0] at he ⊢
    refine once_none h rfl rfl ?_
    simp only [offE] at he
    simp only [offL]
    cases hb : badN o.n
    · cases hh : hasId l o.id
      · cases hz : busyB s l
        · simp [hb, hh, hz] at he
        · simp
      · simp
    · simp
  · rw [stepW, if_neg (by omega), if_pos h1]
    exact once_none h rfl rfl (ansL_ids _ _ _)
  · rw [stepW, if_neg (by omega), if_neg (by omega), if_pos h2]
    have hnl := nset_le l
    have hlen : (settled l).length = nset l := by simp [settled]; omega
    have hget : ∀ j, ∀ hj : j < (settled l).length, (settled l)[j] = toRes (l[j]'(by omega)) := fun j hj => by simp [settled]
    have hord := List.pairwise_iff_getElem.1 h.ord
    have hlow : ∀ j, ∀ hj : j < l.length, last < f l[j].id := fun j hj => h.low _ (List.mem_map.2 ⟨l[j], List.getElem_mem hj, rfl⟩)
    have hpair : ∀ j k, ∀ (hj : j < l.length) (hk : k < l.length), j < k → f l[j].id < f l[k].id := fun j k hj hk' hjk => by
      have := hord j k (by simpa using hj) (by simpa using hk') hjk
      simpa using this
    have hfin : ∀ j, ∀ hj : j < l.length, j < nset l → outB l[j] = false := fun j hj hjn => by
      have hmem : l[j] ∈ l.takeWhile (fun o => !outB o) := by
        have hlt : j < (l.takeWhile (fun o => !outB o)).length := hjn
        have e : (l.takeWhile (fun o => !outB o))[j] = l[j] := (List.takeWhile_prefix _).getElem hlt
        rw [← e]; exact List.getElem_mem hlt
      have := List.all_takeWhile (p := fun o => !outB o) (l := l)
      rw [List.all_eq_true] at this
      simpa using this _ hmem
    refine ⟨fun j hj => ?_, ?_⟩
    · simp only at hj ⊢
      have hjl : j < l.length := by omega
      rw [hget j hj]
      have ho := hok l[j] (List.getElem_mem hjl)
      have hf := hfin j hjl (by omega)
      refine ⟨?_, ?_, ho.2⟩
      · rcases Nat.eq_zero_or_pos j with hj0 | hj0
        · subst hj0; simpa [lastAt, toRes] using hlow 0 hjl
        · obtain ⟨j', rfl⟩ : ∃ j', j = j' + 1 := ⟨j - 1, by omega⟩
          rw [lastAt_succ _ _ _ _ (by omega), hget j' (by omega)]
          exact hpair j' (j' + 1) (by omega) hjl (by omega)
      · simp only [outB, Bool.or_eq_false_iff, beq_eq_false_iff_ne] at hf
        simp only [toRes]; omega
    · simp only
      have hla : ∀ k, ∀ hk' : k < l.length, nset l ≤ k → lastAt f last (settled l) (settled l).length < f l[k].id := fun k hk' hnk => by
        rcases Nat.eq_zero_or_pos (nset l) with h0 | h0
        · rw [hlen, h0]; simpa [lastAt] using hlow k hk'
        · obtain ⟨j, hj⟩ : ∃ j, nset l = j + 1 := ⟨nset l - 1, by omega⟩
          rw [hlen, hj, lastAt_succ _ _ _ _ (by omega), hget j (by omega)]
          exact hpair j k (by omega) hk' (by omega)
      have hmem : ∀ a ∈ (l.drop (nset l)).map (·.id), ∃ k, ∃ hk' : k < l.length, nset l ≤ k ∧ a = l[k].id := fun a ha => by
        obtain ⟨x, hx, rfl⟩ := List.mem_map.1 ha
        obtain ⟨j, hj, rfl⟩ := List.getElem_of_mem hx
        have hjl : j < l.length - nset l := by simpa using hj
        exact ⟨nset l + j, by omega, by omega, by simp⟩
      refine ⟨?_, ?_, ?_, ?_, ?_, by have := h.mi; omega, ?_, ?_⟩
      · have := h.cnt; simp [hlen]; omega
      · exact h.ord.sublist ((List.drop_sublist _ _).map _)
      · intro a ha
        obtain ⟨k, hk', hnk, rfl⟩ := hmem a ha
        exact hla k hk' hnk
      · intro a ha
        obtain ⟨k, hk', hnk, rfl⟩ := hmem a ha
        have := h.hi _ (List.mem_map.2 ⟨l[k], List.getElem_mem hk', rfl⟩); omega
      · rcases Nat.eq_zero_or_pos (nset l) with h0 | h0
        · rw [hlen, h0]; have := h.li; simp [lastAt]; omega
        · obtain ⟨j, hj⟩ : ∃ j, nset l = j + 1 := ⟨nset l - 1, by omega⟩
          rw [hlen, hj, lastAt_succ _ _ _ _ (by omega), hget j (by omega)]
          have := h.hi _ (List.mem_map.2 ⟨l[j], List.getElem_mem (by omega), rfl⟩)
          simp only [toRes]; omega
      · have := h.b0; simp; omega
      · rcases Nat.eq_zero_or_pos (nset l) with h0 | h0
        · rw [hlen, h0]; have := h.l1; simpa [lastAt] using this
        · obtain ⟨j, hj⟩ : ∃ j, nset l = j + 1 := ⟨nset l - 1, by omega⟩
          rw [hlen, hj, lastAt_succ _ _ _ _ (by omega), hget j (by omega)]
          have := hlow j (by omega)
          have := h.l1
          simp only [toRes]; omega
  · rw [stepW, if_neg (by omega), if_neg (by omega), if_neg (by omega), if_pos h3]
    refine ⟨fun j hj => by simp at hj, ?_⟩
    simp only [List.length_nil]
    have hsub : ((keepL l).map (·.id)).Sublist (l.map (·.id)) := List.filter_sublist.map _
    have hko := keep_outs l
    refine ⟨?_, h.ord.sublist hsub, fun a ha => ?_, fun a ha => ?_, ?_, by have := h.mi; omega, ?_, ?_⟩
    · have := h.cnt; simp; omega
    · simpa [lastAt] using h.low a (hsub.subset ha)
    · have := h.hi a (hsub.subset ha); omega
    · have := h.li; simp [lastAt]; omega
    · have := h.b0; simp; omega
    · have := h.l1; simpa [lastAt] using this
  · rw [stepW, if_neg (by omega), if_neg (by omega), if_neg (by omega), if_neg (by omega)]
    exact once_none h rfl rfl rfl
end Go.Proofs.Ytbcejdmgdgghfaa
