/- Plain laws on windows: a line can be connected in a minute; Next's minute is the first. Conditions: a valid description. -/
import Derived.Test.YtnddahajfcmkiaaLs
namespace Go.Proofs.Ytnddahajfcmkiaa
set_option linter.unusedSimpArgs false
set_option linter.unusedVariables false
set_option linter.unnecessarySimpa false
open Go.RowKit

/-- the line can be connected in minute m (m is not negative) -/
def conM (c : Cfg) (m : Int) : Bool := c.ws.any (inW (splitR c.period m))
theorem winC_con (c : Cfg) (m : Int) : (winC c m).2.2 = conM c m := by
  unfold winC conM
  cases h : c.ws.find? (inW (splitR c.period m)) with
  | none =>
    have := List.find?_eq_none.1 h
    simp only
    symm
    rw [List.any_eq_false]
    intro x hx
    simpa using this x hx
  | some x =>
    have h1 := List.find?_some h
    have h2 := List.mem_of_find?_eq_some h
    simp only
    symm
    rw [List.any_eq_true]
    exact ⟨x, h2, h1⟩
theorem inW_iff {q : Int} {x : Wn} : inW q x = true ↔ x.lo ≤ q ∧ q < x.hi := by simp [inW]
/-- sorted windows -/
def SrtW : Int → List Wn → Prop
  | _, [] => True
  | last, x :: ws => last ≤ x.lo ∧ x.lo < x.hi ∧ SrtW x.hi ws
theorem SrtW.of_chk {most : Int} : ∀ {ws : List Wn} {last : Int}, chkW most last ws = 0 → SrtW last ws
  | [], _, _ => trivial
  | y :: ws, last, h => by
    unfold chkW at h
    split at h
    · cases h
    · rename_i hb
      split at h
      · cases h
      · rename_i hl
        simp only [badW, not_or, Int.not_lt, Int.not_le] at hb
        exact ⟨by omega, hb.2.1, SrtW.of_chk h⟩
theorem SrtW.ge : ∀ {ws : List Wn} {last : Int}, SrtW last ws → ∀ x ∈ ws, last ≤ x.lo ∧ x.lo < x.hi
  | [], _, _, x, hx => by cases hx
  | y :: ws, last, ⟨h1, h2, h3⟩, x, hx => by
    rcases List.mem_cons.1 hx with rfl | hx
    · exact ⟨h1, h2⟩
    · have := h3.ge x hx
      omega
theorem nextW_some {base rest : Int} : ∀ {ws : List Wn} {last v : Int}, SrtW last ws → nextW base rest ws = some v →
    ∃ t, v = base + t ∧ rest ≤ t ∧ (∃ x ∈ ws, x.lo ≤ t ∧ t < x.hi) ∧ ∀ q, rest ≤ q → q < t → ws.any (inW q) = false
  | [], _, _, _, h => by cases h
  | x :: ws, last, v, ⟨h1, h2, h3⟩, h => by
    unfold nextW at h
    split at h
    · rename_i hlt
      injection h with h
      refine ⟨max rest x.lo, h.symm, by omega, ⟨x, by simp, by omega, by omega⟩, fun q hq1 hq2 => ?_⟩
      rw [List.any_eq_false]
      intro y hy
      rw [inW_iff]
      rcases List.mem_cons.1 hy with rfl | hy
      · omega
      · have := h3.ge y hy
        omega
    · rename_i hge
      obtain ⟨t, e, h4, ⟨y, hy, hy1⟩, h5⟩ := nextW_some h3 h
      refine ⟨t, e, h4, ⟨y, by simp [hy], hy1⟩, fun q hq1 hq2 => ?_⟩
      have := h5 q hq1 hq2
      simp only [List.any_cons, this, Bool.or_false]
      cases hc : inW q x
      · rfl
      · rw [inW_iff] at hc; omega
theorem nextW_none {base rest : Int} : ∀ {ws : List Wn}, nextW base rest ws = none → ∀ q, rest ≤ q → ws.any (inW q) = false
  | [], _, q, _ => rfl
  | x :: ws, h, q, hq => by
    unfold nextW at h
    split at h
    · cases h
    · rename_i hge
      simp only [List.any_cons, nextW_none h q hq, Bool.or_false]
      cases hc : inW q x
      · rfl
      · rw [inW_iff] at hc; omega
theorem splitR_at {p m t : Int} (hp : 0 < p) (h0 : 0 ≤ t) (h1 : t < p) : splitR p (m - m % p + t) = t := by
  have e : m - m % p = p * (m / p) := by have := Int.emod_add_mul_ediv m p; omega
  unfold splitR
  rw [if_neg (by omega), e, Int.mul_add_emod_self_left]
  exact Int.emod_eq_of_lt h0 h1
theorem splitR_next {p m t : Int} (hp : 0 < p) (h0 : 0 ≤ t) (h1 : t < p) : splitR p (m - m % p + p + t) = t := by
  have e : m - m % p + p + t = t + p * (m / p + 1) := by have := Int.emod_add_mul_ediv m p; rw [Int.mul_add, Int.mul_one]; omega
  unfold splitR
  rw [if_neg (by omega), e, Int.add_mul_emod_self_left]
  exact Int.emod_eq_of_lt h0 h1
/-- Next's answer -/
def NextOk (c : Cfg) (m : Int) (r : Int × Bool) : Prop :=
  (r.2 = true → m ≤ r.1 ∧ conM c r.1 = true ∧ ∀ q, m ≤ q → q < r.1 → conM c q = false) ∧ (r.2 = false → r.1 = 0 ∧ ∀ q, m ≤ q → conM c q = false)
theorem nextC_ok {c : Cfg} {m : Int} (hok : chkC c = 0) (hm : 0 ≤ m) : NextOk c m (nextC c m) := by
  obtain ⟨hb, hl, hw⟩ := chk_ok hok
  have hs := SrtW.of_chk hw
  have hall := chkW_all hw
  have hp := chk_per hok
  unfold nextC
  by_cases hp0 : c.period = 0
  · have hB : splitB c.period m = 0 := by simp [splitB, hp0]
    have hR : ∀ q, splitR c.period q = q := fun q => by simp [splitR, hp0]
    rw [hB, hR]
    cases h : nextW 0 m c.ws with
    | some v =>
      obtain ⟨t, e, h4, ⟨x, hx, hx1⟩, h5⟩ := nextW_some hs h
      refine ⟨fun _ => ?_, fun h => by cases h⟩
      simp only
      refine ⟨by omega, ?_, fun q h1 h2 => ?_⟩
      · unfold conM
        rw [hR, List.any_eq_true]
        exact ⟨x, hx, inW_iff.2 (by omega)⟩
      · unfold conM
        rw [hR]
        exact h5 q h1 (by omega)
    | none =>
      simp only [hp0, true_or, if_true]
      refine ⟨(fun h => by cases h), fun _ => ⟨rfl, fun q hq => ?_⟩⟩
      unfold conM
      rw [hR]
      exact nextW_none h q hq
  · have hpp : 0 < c.period := by omega
    have hmost : mostC c.period = c.period := by simp [mostC, hp0]
    rw [hmost] at hall
    have hB : splitB c.period m = m - m % c.period := by simp [splitB, hp0]
    have hR : splitR c.period m = m % c.period := by simp [splitR, hp0]
    have hr0 : 0 ≤ m % c.period := Int.emod_nonneg _ hp0
    have hr1 : m % c.period < c.period := Int.emod_lt_of_pos _ hpp
    rw [hB, hR]
    have key : ∀ q, m - m % c.period ≤ q → q < m - m % c.period + c.period → splitR c.period q = q - (m - m % c.period) := fun q h1 h2 => by
      have := splitR_at (m := m) hpp (t := q - (m - m % c.period)) (by omega) (by omega)
      rw [show m - m % c.period + (q - (m - m % c.period)) = q by omega] at this
      exact this
    have key2 : ∀ q, m - m % c.period + c.period ≤ q → q < m - m % c.period + c.period + c.period → splitR c.period q = q - (m - m % c.period) - c.period := fun q h1 h2 => by
      have := splitR_next (m := m) hpp (t := q - (m - m % c.period) - c.period) (by omega) (by omega)
      rw [show m - m % c.period + c.period + (q - (m - m % c.period) - c.period) = q by omega] at this
      exact this
    cases h : nextW (m - m % c.period) (m % c.period) c.ws with
    | some v =>
      obtain ⟨t, e, h4, ⟨x, hx, hx1⟩, h5⟩ := nextW_some hs h
      have := hall x hx
      refine ⟨fun _ => ?_, fun h => by cases h⟩
      simp only
      refine ⟨by omega, ?_, fun q h1 h2 => ?_⟩
      · unfold conM
        rw [key v (by omega) (by omega), List.any_eq_true]
        exact ⟨x, hx, inW_iff.2 (by omega)⟩
      · unfold conM
        rw [key q (by omega) (by omega)]
        exact h5 _ (by omega) (by omega)
    | none =>
      have hno := nextW_none h
      simp only [hp0, false_or]
      by_cases hz : c.ws.length = 0
      · rw [if_pos hz]
        refine ⟨(fun h => by cases h), fun _ => ⟨rfl, fun q hq => ?_⟩⟩
        have : c.ws = [] := List.eq_nil_of_length_eq_zero hz
        simp [conM, this]
      · rw [if_neg hz]
        obtain ⟨x, ws', hws⟩ : ∃ x ws', c.ws = x :: ws' := by
          cases hc : c.ws with
          | nil => simp [hc] at hz
          | cons x ws' => exact ⟨x, ws', rfl⟩
        have hx := hall x (by simp [hws])
        have hs' := hs
        rw [hws] at hs'
        have he : c.ws.getD 0 default = x := by simp [hws]
        rw [he]
        refine ⟨fun _ => ?_, fun h => by cases h⟩
        simp only
        refine ⟨by omega, ?_, fun q h1 h2 => ?_⟩
        · unfold conM
          rw [key2 _ (by omega) (by omega), List.any_eq_true]
          exact ⟨x, by simp [hws], inW_iff.2 (by omega)⟩
        · unfold conM
          by_cases hq : q < m - m % c.period + c.period
          · rw [key q (by omega) hq]
            exact hno _ (by omega)
          · rw [key2 q (by omega) (by omega), List.any_eq_false]
            intro y hy
            rw [inW_iff]
            rw [hws] at hy
            rcases List.mem_cons.1 hy with rfl | hy
            · omega
            · have := hs'.2.2.ge y hy
              have := hs'.2.1
              omega
/-- within a window the line stays connected -/
theorem winC_stays {c : Cfg} {m : Int} (hok : chkC c = 0) (hm : 0 ≤ m) (h : (winC c m).2.2 = true) : ∀ q, m ≤ q → q < (winC c m).2.1 + (winC c m).1.hi → winC c q = winC c m := by
  obtain ⟨hb, hl, hw⟩ := chk_ok hok
  have hall := chkW_all hw
  have hs := SrtW.of_chk hw
  have hp := chk_per hok
  intro q hq1 hq2
  unfold winC at h hq2 ⊢
  cases hf : c.ws.find? (inW (splitR c.period m)) with
  | none => simp [hf] at h
  | some x =>
    simp only [hf] at hq2
    have h1 := inW_iff.1 (List.find?_some hf)
    have h2 := List.mem_of_find?_eq_some hf
    have hx := hall x h2
    have hsp : splitR c.period q = splitR c.period m + (q - m) ∧ splitB c.period q = splitB c.period m := by
      by_cases hp0 : c.period = 0
      · simp [splitR, splitB, hp0]; omega
      · have hpp : 0 < c.period := by omega
        have hmost : mostC c.period = c.period := by simp [mostC, hp0]
        rw [hmost] at hx
        have hB : splitB c.period m = m - m % c.period := by simp [splitB, hp0]
        have hR : splitR c.period m = m % c.period := by simp [splitR, hp0]
        rw [hB] at hq2
        rw [hR] at h1
        have hr0 : 0 ≤ m % c.period := Int.emod_nonneg _ hp0
        have := splitR_at (m := m) hpp (t := q - (m - m % c.period)) (by omega) (by omega)
        rw [show m - m % c.period + (q - (m - m % c.period)) = q by omega] at this
        rw [hR, hB]
        refine ⟨by omega, ?_⟩
        have hq : splitB c.period q = q - splitR c.period q := by simp [splitB, splitR, hp0]
        omega
    rw [hsp.1, hsp.2]
    -- the same window is found
    have hkey : c.ws.find? (inW (splitR c.period m + (q - m))) = some x := by
      have hxq : splitR c.period m + (q - m) < x.hi := by
        have : splitB c.period m + splitR c.period m = m := by
          unfold splitB splitR; split <;> omega
        omega
      clear hsp hq2 h
      have gen : ∀ (ws : List Wn) (last : Int), SrtW last ws → ws.find? (inW (splitR c.period m)) = some x → ws.find? (inW (splitR c.period m + (q - m))) = some x := by
        intro ws
        induction ws with
        | nil => intro _ _ h; cases h
        | cons y ws ih =>
          intro last ⟨g1, g2, g3⟩ h
          rw [List.find?_cons] at h ⊢
          cases hy : inW (splitR c.period m) y
          · rw [hy] at h
            have hne : inW (splitR c.period m + (q - m)) y = false := by
              cases hc : inW (splitR c.period m + (q - m)) y
              · rfl
              · rw [inW_iff] at hc
                have hmem := List.mem_of_find?_eq_some h
                have := g3.ge x hmem
                have hny : ¬ (y.lo ≤ splitR c.period m ∧ splitR c.period m < y.hi) := fun hh => by rw [inW_iff.2 hh] at hy; cases hy
                omega
            rw [hne]
            exact ih _ g3 h
          · rw [hy] at h
            injection h with h
            subst h
            rw [inW_iff.2 (by omega)]
      exact gen c.ws 0 hs hf
    rw [hkey]
end Go.Proofs.Ytnddahajfcmkiaa
