/- Plain laws on many minutes: an idle line only grows older. Conditions: a valid line. -/
import Derived.Test.YtnddahajfcmkiaaPq
namespace Go.Proofs.Ytnddahajfcmkiaa
set_option linter.unusedSimpArgs false
set_option linter.unusedVariables false
set_option linter.unnecessarySimpa false
open Go.RowKit

def passN : Nat → Ln → Ln
  | 0, L => L
  | k + 1, L => passL (passN k L)
theorem passN_add (j k : Nat) (L : Ln) : passN (j + k) L = passN j (passN k L) := by
  induction j with
  | zero => simp [passN]
  | succ j ih => rw [Nat.succ_add]; simp only [passN, ih]
theorem passN_cfg (k : Nat) (L : Ln) : (passN k L).cfg = L.cfg ∧ (passN k L).now = L.now + k := by
  induction k with
  | zero => simp [passN]
  | succ k ih =>
    have := pass_cfg (passN k L)
    simp only [passN]
    exact ⟨this.1.trans ih.1, by rw [this.2, ih.2]; omega⟩
theorem passN_ok {k : Nat} {L : Ln} (h : LnV L) (hn : L.now + k ≤ 10000000) : LnV (passN k L) := by
  induction k with
  | zero => exact h
  | succ k ih =>
    have := passN_cfg k L
    exact pass_ok (ih (by omega)) (by rw [this.2]; omega)
/-- nothing waits or is under way -/
def Idle (L : Ln) : Prop := L.l.wait.size = 0 ∧ L.l.fl = [] ∧ L.r.wait.size = 0 ∧ L.r.fl = []
theorem toList_size {s : ByteArray} (h : s.toList = []) : s.size = 0 := by
  have : s.toList.length = s.size := by rw [ByteArray.toList_eq]; exact Array.length_toList
  rw [h] at this
  simpa using this.symm
theorem idle_of {L : Ln} (h : idleL L = true) : Idle L := by
  unfold idleL idleE at h
  simp only [Bool.and_eq_true, decide_eq_true_eq] at h
  obtain ⟨⟨h1, h2⟩, h3, h4⟩ := h
  exact ⟨toList_size h1, List.eq_nil_of_length_eq_zero h2, toList_size h3, List.eq_nil_of_length_eq_zero h4⟩
theorem pass_idle {L : Ln} (h : Idle L) (hc : conM L.cfg (L.now + 1) = L.up) : passL L = { L with now := L.now + 1 } := by
  obtain ⟨cfg, now, up, ses, ⟨x0, f0, a0⟩, ⟨x1, f1, a1⟩⟩ := L
  obtain ⟨h1, h2, h3, h4⟩ := h
  simp only at h1 h2 h3 h4 hc
  subst h2 h4
  cases up
  · have e : dlvL 2 ⟨cfg, now + 1, false, ses, ⟨x0, [], a0⟩, ⟨x1, [], a1⟩⟩ = ⟨cfg, now + 1, false, ses, ⟨x0, [], a0⟩, ⟨x1, [], a1⟩⟩ := by simp [dlvL, dlvF]
    simp only [passL, e, riseL, winC_con, hc]
    rfl
  · have e0 : launchE cfg.rate now cfg.delay ⟨x0, [], a0⟩ = ⟨x0, [], a0⟩ := by simp [launchE, h1]
    have e1 : launchE cfg.rate now cfg.delay ⟨x1, [], a1⟩ = ⟨x1, [], a1⟩ := by simp [launchE, h3]
    have e : dlvL 2 ⟨cfg, now + 1, true, ses, ⟨x0, [], a0⟩, ⟨x1, [], a1⟩⟩ = ⟨cfg, now + 1, true, ses, ⟨x0, [], a0⟩, ⟨x1, [], a1⟩⟩ := by simp [dlvL, dlvF]
    simp only [passL, e0, e1, e, winC_con, hc, passEnd, if_true]
theorem passN_idle {L : Ln} (h : Idle L) : ∀ (k : Nat), (∀ q, L.now < q → q ≤ L.now + k → conM L.cfg q = L.up) → passN k L = { L with now := L.now + k }
  | 0, _ => by simp [passN]
  | k + 1, hc => by
    simp only [passN]
    rw [passN_idle h k fun q h1 h2 => hc q h1 (by omega)]
    have := pass_idle (L := { L with now := L.now + k }) h (hc _ (by simp only; omega) (by simp only; omega))
    rw [this]
    simp only [Int.add_assoc]
    congr 1
/-- what quiet promises -/
theorem skip_ok {L : Ln} (hv : LnV L) (hq : L.now < quietL L) {k : Nat} (hk : L.now + k ≤ quietL L) : passN k L = { L with now := L.now + k } := by
  unfold quietL at hq hk
  split at hq
  · omega
  · rename_i hi
    rw [if_neg hi] at hk
    have hid := idle_of (L := L) (by simpa using hi)
    refine passN_idle hid k fun q h1 h2 => ?_
    split at hq
    · rename_i hu
      rw [if_pos hu] at hk
      split at hq
      · rename_i hw
        rw [if_pos hw] at hk
        rw [← winC_con, winC_stays hv.ok hv.n0 hw q (by omega) (by omega), hw, hu]
      · omega
    · rename_i hu
      rw [if_neg hu] at hk
      have hn := nextC_ok (m := L.now + 1) hv.ok (by have := hv.n0; omega)
      have hu' : L.up = false := by simpa using hu
      rw [hu']
      split at hq
      · rename_i hx
        rw [if_pos hx] at hk
        exact (hn.1 hx).2.2 q (by omega) (by omega)
      · rename_i hx
        exact (hn.2 (by simpa using hx)).2 q (by omega)
end Go.Proofs.Ytnddahajfcmkiaa
