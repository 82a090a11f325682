/- Plain law: the minutes counted. Conditions: a valid description. -/
import Derived.Test.YtnddahajfcmkiaaNg
namespace Go.Proofs.Ytnddahajfcmkiaa
set_option linter.unusedSimpArgs false
set_option linter.unusedVariables false
set_option linter.unnecessarySimpa false
open Go.RowKit
theorem partW_step {q : Int} : ∀ {ws : List Wn} {last : Int}, SrtW last ws → partW (q + 1) ws = partW q ws + (if ws.any (inW q) = true then 1 else 0)
  | [], _, _ => by simp [partW]
  | x :: ws, last, ⟨h1, h2, h3⟩ => by
    have ih := partW_step (q := q) h3
    simp only [partW]
    rw [ih]
    rcases Bool.eq_false_or_eq_true (inW q x) with hx | hx
    · have hh := inW_iff.1 hx
      have hno : ws.any (inW q) = false := by
        rw [List.any_eq_false]
        intro y hy
        have := h3.ge y hy
        rw [inW_iff]; omega
      have ha : (x :: ws).any (inW q) = true := by simp [hx]
      rw [if_pos ha, if_neg (by rw [hno]; simp)]
      omega
    · have hn : ¬ (x.lo ≤ q ∧ q < x.hi) := fun h => by rw [inW_iff.2 h] at hx; cases hx
      have ha : (x :: ws).any (inW q) = ws.any (inW q) := by simp [hx]
      have e : max 0 (min (q + 1) x.hi - x.lo) = max 0 (min q x.hi - x.lo) := by omega
      rw [ha, e]; omega
theorem partW_zero : ∀ {ws : List Wn} {last : Int}, SrtW last ws → 0 ≤ last → partW 0 ws = 0
  | [], _, _, _ => rfl
  | x :: ws, last, ⟨h1, h2, h3⟩, hl => by
    simp only [partW]
    rw [partW_zero h3 (by omega)]
    omega
theorem partW_all {q : Int} : ∀ {ws : List Wn} {last : Int}, SrtW last ws → (∀ x ∈ ws, x.hi ≤ q) → partW q ws = wholeW ws
  | [], _, _, _ => rfl
  | x :: ws, last, ⟨h1, h2, h3⟩, hq => by
    have hx := hq x (by simp)
    simp only [partW, wholeW]
    rw [partW_all h3 (fun y hy => hq y (by simp [hy]))]
    omega
theorem before_per {c : Cfg} {m : Int} (hp : 0 < c.period) (hm : 0 ≤ m) : beforeC c m = partW (m % c.period) c.ws + m / c.period * wholeW c.ws := by
  have hB : splitB c.period m = c.period * (m / c.period) := by
    have := Int.emod_add_mul_ediv m c.period
    unfold splitB; rw [if_neg (by omega)]; omega
  have hR : splitR c.period m = m % c.period := by unfold splitR; rw [if_neg (by omega)]
  unfold beforeC
  rw [hR, hB, Int.mul_ediv_cancel_left _ (by omega)]
  by_cases h : 0 < c.period * (m / c.period)
  · rw [if_pos h]
  · rw [if_neg h]
    have h0 : 0 ≤ m / c.period := Int.ediv_nonneg hm (by omega)
    have h1 : c.period * (m / c.period) = 0 := by have := Int.mul_nonneg (show 0 ≤ c.period by omega) h0; omega
    rcases Int.mul_eq_zero.1 h1 with h2 | h2
    · omega
    · rw [h2]; simp
theorem before_step {c : Cfg} {m : Int} (hok : chkC c = 0) (hm : 0 ≤ m) : beforeC c (m + 1) = beforeC c m + (if conM c m = true then 1 else 0) := by
  have hs := SrtW.of_chk (chk_ok hok).2.2
  have hall := chkW_all (chk_ok hok).2.2
  have hp := chk_per hok
  by_cases hp0 : c.period = 0
  · have hR : ∀ q, splitR c.period q = q := fun q => by simp [splitR, hp0]
    have hB : ∀ q, splitB c.period q = 0 := fun q => by simp [splitB, hp0]
    unfold beforeC conM
    rw [hR, hR, hB, hB, partW_step hs]
    omega
  · have hpp : 0 < c.period := by omega
    have hmost : mostC c.period = c.period := by simp [mostC, hp0]
    rw [hmost] at hall
    have hR : splitR c.period m = m % c.period := by simp [splitR, hp0]
    have hr0 : 0 ≤ m % c.period := Int.emod_nonneg _ hp0
    have hr1 : m % c.period < c.period := Int.emod_lt_of_pos _ hpp
    have hem := Int.emod_add_mul_ediv m c.period
    rw [before_per hpp hm, before_per hpp (by omega)]
    unfold conM
    rw [hR]
    by_cases hlt : m % c.period + 1 < c.period
    · have e1 : (m + 1) % c.period = m % c.period + 1 := by
        rw [show m + 1 = (m % c.period + 1) + c.period * (m / c.period) by omega, Int.add_mul_emod_self_left]
        exact Int.emod_eq_of_lt (by omega) hlt
      have e2 : (m + 1) / c.period = m / c.period := by
        rw [show m + 1 = (m % c.period + 1) + c.period * (m / c.period) by omega, Int.add_mul_ediv_left _ _ hp0, Int.ediv_eq_zero_of_lt (by omega) hlt]
        omega
      rw [e1, e2, partW_step hs]
      omega
    · have e0 : m % c.period = c.period - 1 := by omega
      have e1 : (m + 1) % c.period = 0 := by
        rw [show m + 1 = 0 + c.period * (m / c.period + 1) by rw [Int.mul_add]; omega, Int.add_mul_emod_self_left]
        simp
      have e2 : (m + 1) / c.period = m / c.period + 1 := by
        rw [show m + 1 = 0 + c.period * (m / c.period + 1) by rw [Int.mul_add]; omega, Int.add_mul_ediv_left _ _ hp0]
        simp
      have h1 := partW_step (q := c.period - 1) hs
      rw [show c.period - 1 + 1 = c.period by omega, partW_all hs (fun x hx => (hall x hx).2.2)] at h1
      rw [e1, e2, partW_zero hs (Int.le_refl _), e0, h1, Int.add_mul]
      omega
/-- connected minutes among the next k -/
def cntC (c : Cfg) (a : Int) : Nat → Int
  | 0 => 0
  | k + 1 => cntC c a k + (if conC c (a + k) = true then 1 else 0)
theorem cnt_bd (c : Cfg) (a : Int) : ∀ k, 0 ≤ cntC c a k ∧ cntC c a k ≤ k
  | 0 => by simp [cntC]
  | k + 1 => by
    have := cnt_bd c a k
    simp only [cntC]
    split <;> omega
theorem cnt_before {c : Cfg} {a : Int} (hok : chkC c = 0) (ha : 0 ≤ a) : ∀ k : Nat, beforeC c (a + k) - beforeC c a = cntC c a k
  | 0 => by simp [cntC]
  | k + 1 => by
    have ih := cnt_before hok ha k
    have hst := before_step (c := c) (m := a + k) hok (by omega)
    have hcc : conC c (a + k) = conM c (a + k) := conC_any hok (by omega)
    simp only [cntC, hcc]
    rw [show a + ((k + 1 : Nat) : Int) = a + k + 1 by omega, hst]
    omega
end Go.Proofs.Ytnddahajfcmkiaa
