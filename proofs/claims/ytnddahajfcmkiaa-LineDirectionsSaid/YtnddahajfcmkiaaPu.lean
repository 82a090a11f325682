/- Plain law: the two directions of a line do not meet. Conditions: none. -/
import Derived.Test.YtnddahajfcmkiaaNb
namespace Go.Proofs.Ytnddahajfcmkiaa
set_option linter.unusedSimpArgs false
set_option linter.unusedVariables false
set_option linter.unnecessarySimpa false
open Go.RowKit
def DirR (L M : Ln) : Prop := L.cfg = M.cfg ∧ L.now = M.now ∧ L.up = M.up ∧ L.ses = M.ses ∧ L.l.wait = M.l.wait ∧ L.l.fl = M.l.fl ∧ L.r.arr = M.r.arr
theorem DirR.refl (L : Ln) : DirR L L := ⟨rfl, rfl, rfl, rfl, rfl, rfl, rfl⟩
theorem launch_arr {r n d : Int} (w : ByteArray) (f : List Fl) (a b : ByteArray) : (launchE r n d ⟨w, f, a⟩).wait = (launchE r n d ⟨w, f, b⟩).wait ∧ (launchE r n d ⟨w, f, a⟩).fl = (launchE r n d ⟨w, f, b⟩).fl := by
  unfold launchE
  by_cases h : w.size = 0
  · simp [h]
  · simp [h]
theorem dlv_fst {n : Int} (l : List Fl) (a b : ByteArray) : (dlvF n l a).1 = (dlvF n l b).1 := by
  induction l generalizing a b with
  | nil => rfl
  | cons f l ih =>
    by_cases hf : f.at_ ≤ n
    · rw [dlvF_cons hf, dlvF_cons hf]; exact ih _ _
    · rw [dlvF_stop hf, dlvF_stop hf]
theorem dlv2_l (cfg : Cfg) (n : Int) (u : Bool) (s : Int) (e0 e1 : Ed) : (dlvL 2 ⟨cfg, n, u, s, e0, e1⟩).l.wait = e0.wait ∧ (dlvL 2 ⟨cfg, n, u, s, e0, e1⟩).l.fl = (dlvF n e0.fl e1.arr).1 ∧ (dlvL 2 ⟨cfg, n, u, s, e0, e1⟩).r.arr = (dlvF n e0.fl e1.arr).2 ∧ (dlvL 2 ⟨cfg, n, u, s, e0, e1⟩).cfg = cfg ∧ (dlvL 2 ⟨cfg, n, u, s, e0, e1⟩).now = n ∧ (dlvL 2 ⟨cfg, n, u, s, e0, e1⟩).up = u ∧ (dlvL 2 ⟨cfg, n, u, s, e0, e1⟩).ses = s := by
  simp [dlvL]
theorem dlv_DirR {cfg : Cfg} {n s : Int} {u : Bool} {e0 e1 f0 f1 : Ed} (hw : e0.wait = f0.wait) (hf : e0.fl = f0.fl) (ha : e1.arr = f1.arr) : DirR (dlvL 2 ⟨cfg, n, u, s, e0, e1⟩) (dlvL 2 ⟨cfg, n, u, s, f0, f1⟩) := by
  obtain ⟨a1, a2, a3, a4, a5, a6, a7⟩ := dlv2_l cfg n u s e0 e1
  obtain ⟨b1, b2, b3, b4, b5, b6, b7⟩ := dlv2_l cfg n u s f0 f1
  refine ⟨a4.trans b4.symm, a5.trans b5.symm, a6.trans b6.symm, a7.trans b7.symm, ?_, ?_, ?_⟩
  · rw [a1, b1, hw]
  · rw [a2, b2, hf, ha]
  · rw [a3, b3, hf, ha]
theorem fall_DirR {L M : Ln} (h : DirR L M) : DirR (fallL L) (fallL M) := ⟨h.1, h.2.1, rfl, h.2.2.2.1, rfl, rfl, h.2.2.2.2.2.2⟩
theorem rise_DirR {L M : Ln} (h : DirR L M) : DirR (riseL L) (riseL M) := by
  obtain ⟨h1, h2, h3, h4, h5, h6, h7⟩ := h
  unfold riseL
  rw [h1, h2]
  split
  · exact ⟨rfl, rfl, rfl, by rw [h4], h5, h6, rfl⟩
  · exact ⟨h1, h2, h3, h4, h5, h6, h7⟩
theorem pass_DirR {L M : Ln} (h : DirR L M) : DirR (passL L) (passL M) := by
  obtain ⟨cfg, now, up, ses, ⟨x0, f0, a0⟩, ⟨x1, f1, a1⟩⟩ := L
  obtain ⟨cfg', now', up', ses', ⟨y0, g0, b0⟩, ⟨y1, g1, b1⟩⟩ := M
  obtain ⟨h1, h2, h3, h4, h5, h6, h7⟩ := h
  simp only at h1 h2 h3 h4 h5 h6 h7
  subst h1 h2 h3 h4 h5 h6 h7
  unfold passL
  simp only
  have hl := launch_arr (r := cfg.rate) (n := now) (d := cfg.delay) x0 f0 a0 b0
  have t1 := (launchE_tot (r := cfg.rate) (now := now) (d := cfg.delay) (e := ⟨x1, f1, a1⟩)).2
  have t2 := (launchE_tot (r := cfg.rate) (now := now) (d := cfg.delay) (e := ⟨y1, g1, a1⟩)).2
  cases up
  · simp only [Bool.false_eq_true, if_false]
    exact rise_DirR (dlv_DirR rfl rfl rfl)
  · simp only [if_true]
    have hd := dlv_DirR (cfg := cfg) (n := now + 1) (s := ses) (u := true) hl.1 hl.2 (t1.trans t2.symm)
    unfold passEnd
    split
    · exact hd
    · exact fall_DirR hd
theorem passN_DirR {L M : Ln} (h : DirR L M) (k : Nat) : DirR (passN k L) (passN k M) := by
  induction k with
  | zero => exact h
  | succ k ih => exact pass_DirR ih
theorem adv_DirR {L M : Ln} (h : DirR L M) (n : Int) : DirR (advL L n).1 (advL M n).1 ∧ (advL L n).2 = (advL M n).2 := by
  unfold advL
  rw [h.2.1]
  split
  · exact ⟨h, rfl⟩
  · exact ⟨passN_DirR h _, rfl⟩
theorem drop_DirR {L M : Ln} (h : DirR L M) : DirR (dropL L).1 (dropL M).1 ∧ (dropL L).2 = (dropL M).2 := by
  unfold dropL
  rw [h.2.2.1]
  split
  · exact ⟨fall_DirR h, rfl⟩
  · exact ⟨h, rfl⟩
theorem recv_DirR {L M : Ln} (h : DirR L M) (m : Int) : DirR (recvL L 1 m).1 (recvL M 1 m).1 ∧ (recvL L 1 m).2 = (recvL M 1 m).2 := by
  obtain ⟨h1, h2, h3, h4, h5, h6, h7⟩ := h
  unfold recvL
  by_cases hx : validS 1 = false ∨ m < 0
  · rw [if_pos hx, if_pos hx]; exact ⟨⟨h1, h2, h3, h4, h5, h6, h7⟩, rfl⟩
  · rw [if_neg hx, if_neg hx]
    simp only [show ¬ (1 : Int) = 0 by omega, if_false, Ln.ed, h7]
    exact ⟨⟨h1, h2, h3, h4, h5, h6, rfl⟩, trivial⟩
theorem send_DirR {L M : Ln} (h : DirR L M) {s : Int} (hs : s ≠ 1) (t : ByteArray) : DirR (sendL L s t).1 (sendL M s t).1 := by
  by_cases h0 : s = 0
  · subst h0
    obtain ⟨h1, h2, h3, h4, h5, h6, h7⟩ := h
    have hx : ((L.ed 0).wait.size = (M.ed 0).wait.size) := by simp [Ln.ed, h5]
    unfold sendL
    rw [hx, h3]
    split
    · exact ⟨h1, h2, h3, h4, h5, h6, h7⟩
    split
    · exact ⟨h1, h2, h3, h4, h5, h6, h7⟩
    split
    · exact ⟨h1, h2, h3, h4, h5, h6, h7⟩
    · simp only [if_true]
      exact ⟨h1, h2, rfl, h4, by simp only [h5], h6, h7⟩
  · have hv : validS s = false := by simp [validS, h0, hs]
    unfold sendL
    rw [if_pos hv, if_pos hv]
    exact h
theorem send1_DirR {L M : Ln} (h : DirR L M) (t : ByteArray) : DirR (sendL L 1 t).1 M := by
  unfold sendL
  split
  · exact h
  split
  · exact h
  split
  · exact h
  · simp only [show ¬ (1 : Int) = 0 by omega, if_false]
    exact h
end Go.Proofs.Ytnddahajfcmkiaa
