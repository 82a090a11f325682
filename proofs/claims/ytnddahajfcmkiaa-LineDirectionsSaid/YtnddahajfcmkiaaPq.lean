/- Plain laws on a minute of the line: what is kept, what an idle line does. Conditions: a valid line. -/
import Derived.Test.YtnddahajfcmkiaaPn
import Derived.Test.YtnddahajfcmkiaaLw
namespace Go.Proofs.Ytnddahajfcmkiaa
set_option linter.unusedSimpArgs false
set_option linter.unusedVariables false
set_option linter.unnecessarySimpa false
open Go.RowKit

def passL (L : Ln) : Ln :=
  if L.up = true then passEnd (winC L.cfg (L.now + 1)).2.2 (dlvL 2 ⟨L.cfg, L.now + 1, true, L.ses, launchE L.cfg.rate L.now L.cfg.delay L.l, launchE L.cfg.rate L.now L.cfg.delay L.r⟩)
  else riseL (dlvL 2 ⟨L.cfg, L.now + 1, false, L.ses, L.l, L.r⟩)
def totE (e : Ed) : Nat := e.wait.size + wayN e.fl + e.arr.size
def totL (L : Ln) : Nat := totE L.l + totE L.r
structure EdV (now d : Int) (e : Ed) : Prop where
  ne : ∀ f ∈ e.fl, 0 < f.text.size
  bd : ∀ f ∈ e.fl, now < f.at_ ∧ f.at_ ≤ now + d
  so : e.fl.Pairwise (fun f g => f.at_ ≤ g.at_)
structure LnV (L : Ln) : Prop where
  ok : chkC L.cfg = 0
  n0 : 0 ≤ L.now
  n1 : L.now ≤ 10000000
  s0 : 0 ≤ L.ses
  s1 : L.ses ≤ L.now + 1
  e0 : EdV L.now L.cfg.delay L.l
  e1 : EdV L.now L.cfg.delay L.r
  dn : L.up = false → L.l.wait.size = 0 ∧ L.l.fl = [] ∧ L.r.wait.size = 0 ∧ L.r.fl = []
  tot : totL L ≤ 90000
theorem len_wayN : ∀ {l : List Fl}, (∀ f ∈ l, 0 < f.text.size) → l.length ≤ wayN l
  | [], _ => Nat.zero_le _
  | f :: l, h => by
    rw [wayN_cons, List.length_cons]
    have := h f (by simp)
    have := len_wayN (l := l) fun g hg => h g (by simp [hg])
    omega
theorem chk_del {c : Cfg} (h : chkC c = 0) : 1 ≤ c.rate ∧ c.rate ≤ 1048576 ∧ 0 ≤ c.delay ∧ c.delay ≤ 1440 := by
  have := (chk_ok h).1
  simp only [badC, not_or, Int.not_lt] at this
  omega
def catF (l : List Fl) : ByteArray := l.foldl (fun a f => a ++ f.text) ⟨#[]⟩
/-- what is due is a beginning of the flights -/
theorem dlvF_spec (n : Int) : ∀ (l : List Fl) (a : ByteArray), ∃ pre, l = pre ++ (dlvF n l a).1 ∧ (dlvF n l a).2 = pre.foldl (fun a f => a ++ f.text) a ∧ (∀ f ∈ pre, f.at_ ≤ n) ∧ ∀ f, (dlvF n l a).1.head? = some f → n < f.at_
  | [], a => ⟨[], rfl, rfl, fun _ h => (by cases h), fun _ h => (by cases h)⟩
  | f :: l, a => by
    by_cases h : f.at_ ≤ n
    · rw [dlvF_cons h]
      obtain ⟨pre, h1, h2, h3, h4⟩ := dlvF_spec n l (a ++ f.text)
      refine ⟨f :: pre, by rw [List.cons_append, ← h1], h2, fun g hg => ?_, h4⟩
      rcases List.mem_cons.1 hg with rfl | hg
      · exact h
      · exact h3 g hg
    · rw [dlvF_stop h]
      exact ⟨[], rfl, rfl, fun _ h => (by cases h), fun g hg => by simp at hg; subst hg; omega⟩
theorem dlvF_tot (n : Int) : ∀ (l : List Fl) (a : ByteArray), wayN (dlvF n l a).1 + (dlvF n l a).2.size = wayN l + a.size
  | [], a => rfl
  | f :: l, a => by
    by_cases h : f.at_ ≤ n
    · rw [dlvF_cons h, dlvF_tot n l, wayN_cons, ByteArray.size_append]; omega
    · rw [dlvF_stop h]
theorem dlvF_sub (n : Int) (l : List Fl) (a : ByteArray) : ∀ f ∈ (dlvF n l a).1, f ∈ l := by
  obtain ⟨pre, h1, _⟩ := dlvF_spec n l a
  intro f hf
  rw [h1]; simp [hf]
theorem dlvF_late {n : Int} {l : List Fl} {a : ByteArray} (hs : l.Pairwise (fun f g => f.at_ ≤ g.at_)) : (∀ f ∈ (dlvF n l a).1, n < f.at_) ∧ (dlvF n l a).1.Pairwise (fun f g => f.at_ ≤ g.at_) := by
  obtain ⟨pre, h1, _, _, h4⟩ := dlvF_spec n l a
  have hs2 : (dlvF n l a).1.Pairwise (fun f g => f.at_ ≤ g.at_) := by
    have := hs
    rw [h1, List.pairwise_append] at this
    exact this.2.1
  refine ⟨fun f hf => ?_, hs2⟩
  cases hd : (dlvF n l a).1 with
  | nil => rw [hd] at hf; cases hf
  | cons g t =>
    have h5 := h4 g (by rw [hd]; rfl)
    rw [hd] at hf hs2
    rcases List.mem_cons.1 hf with rfl | hf
    · exact h5
    · have := (List.pairwise_cons.1 hs2).1 f hf
      omega
/-- the flights of a side behind launching and delivering -/
theorem side_pass {r now d : Int} {e : Ed} {a : ByteArray} (hr : 1 ≤ r) (hd : 0 ≤ d) (h : EdV now d e) : EdV (now + 1) d ⟨(launchE r now d e).wait, (dlvF (now + 1) (launchE r now d e).fl a).1, a⟩ := by
  have hL : (∀ f ∈ (launchE r now d e).fl, 0 < f.text.size) ∧ (∀ f ∈ (launchE r now d e).fl, f.at_ ≤ now + 1 + d) ∧ (launchE r now d e).fl.Pairwise (fun f g => f.at_ ≤ g.at_) := by
    unfold launchE
    split
    · exact ⟨h.ne, fun f hf => by have := h.bd f hf; omega, h.so⟩
    · rename_i hz
      simp only
      refine ⟨fun f hf => ?_, fun f hf => ?_, ?_⟩
      · rcases List.mem_append.1 hf with hf | hf
        · exact h.ne f hf
        · simp only [List.mem_singleton] at hf
          subst hf
          simp only [ByteArray.size_extract, recN]
          omega
      · rcases List.mem_append.1 hf with hf | hf
        · have := h.bd f hf; omega
        · simp only [List.mem_singleton] at hf
          subst hf
          simp only; omega
      · rw [List.pairwise_append]
        refine ⟨h.so, by simp, fun f hf g hg => ?_⟩
        simp only [List.mem_singleton] at hg
        subst hg
        have := h.bd f hf
        simp only; omega
  have hl := dlvF_late (n := now + 1) (a := a) hL.2.2
  exact ⟨fun f hf => hL.1 f (dlvF_sub _ _ _ f hf), fun f hf => ⟨hl.1 f hf, hL.2.1 f (dlvF_sub _ _ _ f hf)⟩, hl.2⟩
theorem EdV.nil {now d : Int} {w a : ByteArray} : EdV now d ⟨w, [], a⟩ := ⟨fun _ h => (by cases h), fun _ h => (by cases h), List.Pairwise.nil⟩
theorem EdV.arr {now d : Int} {w w' a a' : ByteArray} {l : List Fl} (h : EdV now d ⟨w, l, a⟩) : EdV now d ⟨w', l, a'⟩ := ⟨h.ne, h.bd, h.so⟩
theorem pass_cfg (L : Ln) : (passL L).cfg = L.cfg ∧ (passL L).now = L.now + 1 := by
  unfold passL passEnd riseL
  split
  · split <;> exact ⟨rfl, rfl⟩
  · split <;> exact ⟨rfl, rfl⟩
theorem pass_ok {L : Ln} (h : LnV L) (hn : L.now + 1 ≤ 10000000) : LnV (passL L) := by
  obtain ⟨cfg, now, up, ses, ⟨x0, f0, a0⟩, ⟨x1, f1, a1⟩⟩ := L
  obtain ⟨hok, n0, n1, s0, s1, e0, e1, dn, tot⟩ := h
  simp only at hok n0 n1 s0 s1 e0 e1 dn tot hn
  have hcd := chk_del hok
  have t0 := launchE_tot (r := cfg.rate) (now := now) (d := cfg.delay) (e := ⟨x0, f0, a0⟩)
  have t1 := launchE_tot (r := cfg.rate) (now := now) (d := cfg.delay) (e := ⟨x1, f1, a1⟩)
  simp only [totL, totE] at tot
  cases up
  · obtain ⟨d1, d2, d3, d4⟩ := dn rfl
    subst d2 d4
    have e : passL ⟨cfg, now, false, ses, ⟨x0, [], a0⟩, ⟨x1, [], a1⟩⟩ = riseL ⟨cfg, now + 1, false, ses, ⟨x0, [], a0⟩, ⟨x1, [], a1⟩⟩ := by simp [passL, dlvL, dlvF]
    rw [e]
    unfold riseL
    split
    · exact ⟨hok, by simp only; omega, hn, by simp only; omega, by simp only; omega, EdV.nil, EdV.nil, (fun h => by cases h), by have hz : (⟨#[]⟩ : ByteArray).size = 0 := rfl; simp only [totL, totE, hz] at tot ⊢; simp [wayN] at tot ⊢; omega⟩
    · exact ⟨hok, by simp only; omega, hn, s0, by simp only; omega, EdV.nil, EdV.nil, fun _ => ⟨d1, rfl, d3, rfl⟩, by simp only [totL, totE]; simpa using tot⟩
  · have hp0 := side_pass (a := a0) hcd.1 hcd.2.2.1 e0
    have hp1 := side_pass (a := a1) hcd.1 hcd.2.2.1 e1
    have q0 := dlvF_tot (now + 1) (launchE cfg.rate now cfg.delay ⟨x0, f0, a0⟩).fl (launchE cfg.rate now cfg.delay ⟨x1, f1, a1⟩).arr
    have q1 := dlvF_tot (now + 1) (launchE cfg.rate now cfg.delay ⟨x1, f1, a1⟩).fl (launchE cfg.rate now cfg.delay ⟨x0, f0, a0⟩).arr
    simp only [passL, if_true]
    have hV : LnV (dlvL 2 ⟨cfg, now + 1, true, ses, launchE cfg.rate now cfg.delay ⟨x0, f0, a0⟩, launchE cfg.rate now cfg.delay ⟨x1, f1, a1⟩⟩) := by
      refine ⟨hok, by simp only [dlvL]; omega, hn, s0, by simp only [dlvL]; omega, ?_, ?_, (fun h => by cases h), ?_⟩
      · rw [t1.2] at *
        have hfst : ∀ a b, (dlvF (now + 1) (launchE cfg.rate now cfg.delay ⟨x0, f0, a0⟩).fl a).1 = (dlvF (now + 1) (launchE cfg.rate now cfg.delay ⟨x0, f0, a0⟩).fl b).1 := by
          intro a b
          generalize (launchE cfg.rate now cfg.delay ⟨x0, f0, a0⟩).fl = l
          induction l generalizing a b with
          | nil => rfl
          | cons f l ih =>
            by_cases hf : f.at_ ≤ now + 1
            · rw [dlvF_cons hf, dlvF_cons hf]; exact ih _ _
            · rw [dlvF_stop hf, dlvF_stop hf]
        simp only [dlvL, Nat.lt_irrefl, show (0 : Nat) < 2 from by decide, if_true]
        rw [hfst _ a0]
        exact hp0.arr
      · have hfst : ∀ a b, (dlvF (now + 1) (launchE cfg.rate now cfg.delay ⟨x1, f1, a1⟩).fl a).1 = (dlvF (now + 1) (launchE cfg.rate now cfg.delay ⟨x1, f1, a1⟩).fl b).1 := by
          intro a b
          generalize (launchE cfg.rate now cfg.delay ⟨x1, f1, a1⟩).fl = l
          induction l generalizing a b with
          | nil => rfl
          | cons f l ih =>
            by_cases hf : f.at_ ≤ now + 1
            · rw [dlvF_cons hf, dlvF_cons hf]; exact ih _ _
            · rw [dlvF_stop hf, dlvF_stop hf]
        simp only [dlvL, show (1 : Nat) < 2 from by decide, if_true]
        rw [hfst _ a1]
        exact hp1.arr
      · simp only [totL, totE, dlvL, show (0 : Nat) < 2 from by decide, show (1 : Nat) < 2 from by decide, if_true]
        simp only [t0.2, t1.2] at q0 q1 t0 t1 ⊢
        omega
    unfold passEnd
    split
    · exact hV
    · refine ⟨hok, hV.n0, hn, s0, hV.s1, EdV.nil, EdV.nil, fun _ => ⟨rfl, rfl, rfl, rfl⟩, ?_⟩
      have := hV.tot
      simp only [totL, totE, fallL] at this ⊢
      simp only [wayN, List.map_nil, List.sum_nil]
      have hz : (⟨#[]⟩ : ByteArray).size = 0 := rfl
      omega
end Go.Proofs.Ytnddahajfcmkiaa
