/- Plain laws: the reference's Next, and the count of minutes. Conditions: a valid description. -/
import Derived.Test.YtnddahajfcmkiaaPn
namespace Go.Proofs.Ytnddahajfcmkiaa
set_option linter.unusedSimpArgs false
set_option linter.unusedVariables false
set_option linter.unnecessarySimpa false
open Go.RowKit

/-! ### the reference's Next -/
def atW (p m : Int) (x : Wn) : Int := if 0 < p then (if m / p * p + x.lo < m then m / p * p + x.lo + p else m / p * p + x.lo) else x.lo
def refBest (p m : Int) : Int → List Wn → Int
  | best, [] => best
  | best, x :: ws => refBest p m (if m ≤ atW p m x ∧ (best < 0 ∨ atW p m x < best) then atW p m x else best) ws
def refNextC (c : Cfg) (m : Int) : Int :=
  if chkC c ≠ 0 ∨ 1099511627776 < m then -1 else if conM c (max m 0) = true then max m 0 else refBest c.period (max m 0) (-1) c.ws
theorem refBest_spec {p m : Int} : ∀ (ws : List Wn) (best : Int), (∀ x ∈ ws, 0 ≤ atW p m x) → (best = -1 ∨ 0 ≤ best) →
    (refBest p m best ws = best ∨ ∃ x ∈ ws, refBest p m best ws = atW p m x ∧ m ≤ atW p m x) ∧ (refBest p m best ws = -1 ∨ 0 ≤ refBest p m best ws) ∧
    (0 ≤ best → 0 ≤ refBest p m best ws ∧ refBest p m best ws ≤ best) ∧ ∀ x ∈ ws, m ≤ atW p m x → 0 ≤ refBest p m best ws ∧ refBest p m best ws ≤ atW p m x
  | [], best, _, hb => ⟨.inl rfl, hb, fun h => ⟨h, Int.le_refl _⟩, fun _ h => by cases h⟩
  | x :: ws, best, h0, hb => by
    have hx := h0 x (by simp)
    have ih := refBest_spec ws (if m ≤ atW p m x ∧ (best < 0 ∨ atW p m x < best) then atW p m x else best) (fun y hy => h0 y (by simp [hy])) (by split <;> omega)
    unfold refBest
    obtain ⟨i1, i2, i3, i4⟩ := ih
    refine ⟨?_, i2, fun hb0 => ?_, fun y hy hm => ?_⟩
    · rcases i1 with e | ⟨y, hy, e, hm⟩
      · by_cases hc : m ≤ atW p m x ∧ (best < 0 ∨ atW p m x < best)
        · rw [if_pos hc] at e ⊢
          exact .inr ⟨x, by simp, e, hc.1⟩
        · rw [if_neg hc] at e ⊢
          exact .inl e
      · exact .inr ⟨y, by simp [hy], e, hm⟩
    · by_cases hc : m ≤ atW p m x ∧ (best < 0 ∨ atW p m x < best)
      · rw [if_pos hc] at i3 ⊢
        have := i3 hx
        omega
      · rw [if_neg hc] at i3 ⊢
        exact i3 hb0
    · rcases List.mem_cons.1 hy with rfl | hy
      · by_cases hc : m ≤ atW p m y ∧ (best < 0 ∨ atW p m y < best)
        · rw [if_pos hc] at i3 ⊢
          exact i3 hx
        · rw [if_neg hc] at i3 ⊢
          have := i3 (by omega)
          omega
      · exact i4 y hy hm
theorem atW_spec {c : Cfg} {m : Int} (hok : chkC c = 0) (hm : 0 ≤ m) {x : Wn} (hx : x ∈ c.ws) : 0 ≤ atW c.period m x ∧ conM c (atW c.period m x) = true ∧ (∀ q, m ≤ q → inW (splitR c.period q) x = true → conM c m = true ∨ (m ≤ atW c.period m x ∧ atW c.period m x ≤ q)) := by
  obtain ⟨hb, hl, hw⟩ := chk_ok hok
  have hall := chkW_all hw x hx
  have hp := chk_per hok
  have hcon : ∀ q, inW (splitR c.period q) x = true → conM c q = true := fun q hq => by
    unfold conM
    rw [List.any_eq_true]
    exact ⟨x, hx, hq⟩
  by_cases hp0 : c.period = 0
  · have hR : ∀ q, splitR c.period q = q := fun q => by simp [splitR, hp0]
    have ha : atW c.period m x = x.lo := by simp [atW, hp0]
    rw [ha]
    refine ⟨hall.1, hcon _ (by rw [hR, inW_iff]; omega), fun q hq hi => ?_⟩
    rw [hR, inW_iff] at hi
    by_cases hlo : m ≤ x.lo
    · exact .inr ⟨hlo, hi.1⟩
    · exact .inl (hcon m (by rw [hR, inW_iff]; omega))
  · have hpp : 0 < c.period := by omega
    have hmost : mostC c.period = c.period := by simp [mostC, hp0]
    rw [hmost] at hall
    have hr0 : 0 ≤ m % c.period := Int.emod_nonneg _ hp0
    have hr1 : m % c.period < c.period := Int.emod_lt_of_pos _ hpp
    have hem : m / c.period * c.period = m - m % c.period := by have := Int.emod_add_mul_ediv m c.period; rw [Int.mul_comm]; omega
    have ha : atW c.period m x = if m - m % c.period + x.lo < m then m - m % c.period + c.period + x.lo else m - m % c.period + x.lo := by
      unfold atW
      rw [if_pos hpp, hem]
      split <;> omega
    have s1 := splitR_at (m := m) hpp (t := x.lo) (by omega) (by omega)
    have s2 := splitR_next (m := m) hpp (t := x.lo) (by omega) (by omega)
    rw [ha]
    refine ⟨by split <;> omega, ?_, fun q hq hi => ?_⟩
    · split
      · exact hcon _ (by rw [s2, inW_iff]; omega)
      · exact hcon _ (by rw [s1, inW_iff]; omega)
    · rw [inW_iff] at hi
      have hRq : splitR c.period q = q % c.period := by simp [splitR, hp0]
      rw [hRq] at hi
      have hq0 : 0 ≤ q % c.period := Int.emod_nonneg _ hp0
      have hq1 : q % c.period < c.period := Int.emod_lt_of_pos _ hpp
      have eq1 := Int.emod_add_mul_ediv q c.period
      have em1 := Int.emod_add_mul_ediv m c.period
      have hdiv : m / c.period ≤ q / c.period := Int.ediv_le_ediv hpp hq
      by_cases hsame : q / c.period = m / c.period
      · -- the same period
        rw [hsame] at eq1
        by_cases hlo : m - m % c.period + x.lo < m
        · left
          refine hcon m ?_
          have : splitR c.period m = m % c.period := by simp [splitR, hp0]
          rw [this, inW_iff]; omega
        · rw [if_neg hlo]
          right; omega
      · have h2 : c.period * (m / c.period) + c.period ≤ c.period * (q / c.period) := by
          have := Int.mul_le_mul_of_nonneg_left (show m / c.period + 1 ≤ q / c.period by omega) (show 0 ≤ c.period by omega)
          rw [Int.mul_add, Int.mul_one] at this
          exact this
        right
        split <;> omega
/-- two answers of Next agree -/
theorem next_unique {c : Cfg} {m : Int} {r s : Int × Bool} (hr : NextOk c m r) (hs : NextOk c m s) : r = s := by
  obtain ⟨r1, r2⟩ := r
  obtain ⟨s1, s2⟩ := s
  cases r2 <;> cases s2
  · have a := (hr.2 rfl).1
    have b := (hs.2 rfl).1
    simp only at a b
    rw [a, b]
  · have a := hr.2 rfl
    have b := hs.1 rfl
    have := a.2 s1 b.1
    simp only at b
    rw [this] at b
    exact absurd b.2.1 (by simp)
  · have a := hs.2 rfl
    have b := hr.1 rfl
    have := a.2 r1 b.1
    simp only at b
    rw [this] at b
    exact absurd b.2.1 (by simp)
  · have a := hr.1 rfl
    have b := hs.1 rfl
    simp only at a b
    have e : r1 = s1 := by
      rcases Int.lt_trichotomy r1 s1 with h | h | h
      · have := b.2.2 r1 a.1 h
        rw [this] at a; exact absurd a.2.1 (by simp)
      · exact h
      · have := a.2.2 s1 b.1 h
        rw [this] at b; exact absurd b.2.1 (by simp)
    rw [e]
theorem refNext_ok {c : Cfg} {m : Int} (hok : chkC c = 0) (hm : 0 ≤ m) (h1 : m ≤ 1099511627776) : NextOk c m (max (refNextC c m) 0, decide (0 ≤ refNextC c m)) := by
  have e : refNextC c m = if conM c m = true then m else refBest c.period m (-1) c.ws := by
    unfold refNextC
    rw [if_neg (by omega), show max m 0 = m by omega]
  rw [e]
  by_cases hc : conM c m = true
  · rw [if_pos hc]
    refine ⟨fun _ => ⟨by simp only; omega, by simp only; rw [show max m 0 = m by omega]; exact hc, fun q a b => by simp only at b; omega⟩, fun h => ?_⟩
    simp only [decide_eq_false_iff_not] at h
    omega
  · rw [if_neg hc]
    obtain ⟨s1, s2, _, s4⟩ := refBest_spec (p := c.period) (m := m) c.ws (-1) (fun x hx => (atW_spec hok hm hx).1) (.inl rfl)
    have cover : ∀ q, m ≤ q → conM c q = true → 0 ≤ refBest c.period m (-1) c.ws ∧ refBest c.period m (-1) c.ws ≤ q := by
      intro q hq hcq
      unfold conM at hcq
      rw [List.any_eq_true] at hcq
      obtain ⟨x, hx, hi⟩ := hcq
      rcases (atW_spec hok hm hx).2.2 q hq hi with h | ⟨h, h'⟩
      · exact absurd h hc
      · have := s4 x hx h
        omega
    refine ⟨fun h => ?_, fun h => ?_⟩
    · simp only [decide_eq_true_eq] at h
      rcases s1 with e1 | ⟨x, hx, e1, hmx⟩
      · omega
      · simp only
        rw [show max (refBest c.period m (-1) c.ws) 0 = refBest c.period m (-1) c.ws by omega]
        refine ⟨by omega, by rw [e1]; exact (atW_spec hok hm hx).2.1, fun q a b => ?_⟩
        cases hq : conM c q
        · rfl
        · have := cover q a hq; omega
    · simp only [decide_eq_false_iff_not] at h
      refine ⟨by simp only; omega, fun q hq => ?_⟩
      cases hcq : conM c q
      · rfl
      · have := cover q hq hcq; omega
/-- Next agrees with the reference's -/
theorem Next_ref (c : Cfg) (m : Int) : NextC c m = (max (refNextC c m) 0, decide (0 ≤ refNextC c m)) := by
  unfold NextC
  by_cases hx : 1099511627776 < m ∨ chkC c ≠ 0
  · rw [if_pos hx]
    have : refNextC c m = -1 := by unfold refNextC; rw [if_pos (hx.symm)]
    rw [this]; rfl
  · rw [if_neg hx]
    simp only [not_or, Int.not_lt, ne_eq, Decidable.not_not] at hx
    have e : refNextC c m = refNextC c (max m 0) := by
      unfold refNextC
      rw [if_neg (show ¬(chkC c ≠ 0 ∨ 1099511627776 < m) by omega), if_neg (show ¬(chkC c ≠ 0 ∨ 1099511627776 < max m 0) by omega), show max (max m 0) 0 = max m 0 by omega]
    rw [e]
    exact next_unique (nextC_ok hx.2 (by omega)) (refNext_ok hx.2 (by omega) (by omega))
end Go.Proofs.Ytnddahajfcmkiaa
