/- The line: what a pass delivers. Conditions: none. -/
import Derived.Test.YtnddahajfcmkiaaLv
namespace Go.Proofs.Ytnddahajfcmkiaa
set_option linter.unusedSimpArgs false
set_option linter.unusedVariables false
set_option linter.unnecessarySimpa false
open Go.RowKit

def dlvF (now : Int) : List Fl → ByteArray → List Fl × ByteArray
  | [], a => ([], a)
  | f :: l, a => if f.at_ ≤ now then dlvF now l (a ++ f.text) else (f :: l, a)
def dlvL (k : Nat) (L : Ln) : Ln :=
  { L with l := ⟨L.l.wait, if 0 < k then (dlvF L.now L.l.fl L.r.arr).1 else L.l.fl, if 1 < k then (dlvF L.now L.r.fl L.l.arr).2 else L.l.arr⟩,
           r := ⟨L.r.wait, if 1 < k then (dlvF L.now L.r.fl L.l.arr).1 else L.r.fl, if 0 < k then (dlvF L.now L.l.fl L.r.arr).2 else L.r.arr⟩ }
section
variable {r d p now ses : Int} {ws : List Wn} {up : Bool} {x0 x1 a0 a1 z : ByteArray} {f0 f1 y : List Fl}
theorem dk0 : dlvL 0 ⟨⟨r, d, p, ws⟩, now, up, ses, ⟨x0, f0, a0⟩, ⟨x1, f1, a1⟩⟩ = ⟨⟨r, d, p, ws⟩, now, up, ses, ⟨x0, f0, a0⟩, ⟨x1, f1, a1⟩⟩ := by simp [dlvL]
theorem dk1 : dlvL 1 ⟨⟨r, d, p, ws⟩, now, up, ses, ⟨x0, f0, a0⟩, ⟨x1, f1, a1⟩⟩ = ⟨⟨r, d, p, ws⟩, now, up, ses, ⟨x0, (dlvF now f0 a1).1, a0⟩, ⟨x1, f1, (dlvF now f0 a1).2⟩⟩ := by simp [dlvL]
theorem dk2 : dlvL 2 ⟨⟨r, d, p, ws⟩, now, up, ses, ⟨x0, f0, a0⟩, ⟨x1, f1, a1⟩⟩ = ⟨⟨r, d, p, ws⟩, now, up, ses, ⟨x0, (dlvF now f0 a1).1, (dlvF now f1 a0).2⟩, ⟨x1, (dlvF now f1 a0).1, (dlvF now f0 a1).2⟩⟩ := by simp [dlvL]
end
theorem dlvF_cons {now : Int} {f : Fl} {l : List Fl} {a : ByteArray} (h : f.at_ ≤ now) : dlvF now (f :: l) a = dlvF now l (a ++ f.text) := by simp [dlvF, h]
theorem dlvF_stop {now : Int} {f : Fl} {l : List Fl} {a : ByteArray} (h : ¬ f.at_ ≤ now) : dlvF now (f :: l) a = (f :: l, a) := by simp [dlvF, h]
theorem wayN_cons {f : Fl} {l : List Fl} : wayN (f :: l) = f.text.size + wayN l := by simp [wayN]
def flN (b o : Nat) (w : World) : Nat := match w.cell? ⟨b, o, none⟩ with | some (.slice _ n _) => n | _ => 0
section
variable {w w' : World} {b gw g0 g1 c c0 c1 n g : Nat} {L : Ln} {A A0 A1 : Option Addr} {xs : List Value}
theorem LnO.own' {L' : Ln} {A0' A1' : Option Addr} {c0' c1' : Nat} (h : LnO w b L gw g0 g1 A A0 A1 c c0 c1) (hb : Blk w' b 87 (lnc L' A A0' A1' c c0' c1').toArray) (hg : w.grownBy w' (some b)) (hc : L'.cfg = L.cfg)
    (t0 : OT w' g0 A0' L'.l.fl.length c0' (L'.l.fl.flatMap flc)) (t1 : OT w' g1 A1' L'.r.fl.length c1' (L'.r.fl.flatMap flc)) (h0 : 0 < c0' → 0 < c0) (h1 : 0 < c1' → 0 < c1) : LnO w' b L' gw g0 g1 A A0' A1' c c0' c1' := by
  refine ⟨hb, ?_, ?_, ?_, t0, t1, fun k0 k1 => h.ne (h0 k0) (h1 k1)⟩
  · rw [hc]
    rcases Nat.eq_zero_or_pos L.cfg.ws.length with he | he
    · have := h.rw_
      rw [he] at this ⊢
      have e : L.cfg.ws.flatMap winc = [] := List.eq_nil_of_length_eq_zero (by simpa using this.1)
      rw [e]; exact Rd.nil _ _ _ _
    · exact h.rw_.grown hg (by simpa using h.nbw he)
  · rw [hc]
    intro he
    obtain ⟨cs, hb⟩ := h.tw he
    exact ⟨cs, hb.grown hg (by simpa using h.nbw he)⟩
  · rw [hc]; exact h.lw
/-- the slice of flights one further -/
theorem OT.next {off : Nat} {A' : Option Addr} {f : Fl} (h : OT w g (some ⟨g, off, none⟩) (n + 1) c (flc f ++ xs)) (hA : A' = some ⟨g, off + 2, none⟩ ∨ c = 1) : OT w g A' n (c - 1) xs := by
  refine ⟨by have := h.1; omega, by have := h.2.1; rw [List.length_append, flc_len] at this; omega, fun hc => ?_⟩
  obtain ⟨off', cur, e, hb, hs, hcs⟩ := h.2.2 (by omega)
  have e' : off = off' := by injection e with e; injection e
  subst e'
  rcases hA with rfl | hA
  · refine ⟨off + 2, cur, rfl, hb, by omega, fun j u hu => ?_⟩
    have := hcs (2 + j) u (by rw [List.getElem?_append_right (by rw [flc_len]; omega), flc_len]; simpa using hu)
    rw [← this]; congr 1; omega
  · omega
end
section
variable {F : Nat → Prop} {B : Nat} {w y w' : World} {r d p nn ses : Int} {up : Bool} {ws : List Wn} {x0 x1 a0 a1 zz : ByteArray} {f0 f1 yy : List Fl} {f : Fl} {b gw g0 g1 c c0 c1 off : Nat} {A A' A0 A1 : Option Addr}
theorem dlv_fin0 (h : LnO w b ⟨⟨r, d, p, ws⟩, nn, up, ses, ⟨x0, f :: yy, a0⟩, ⟨x1, f1, zz⟩⟩ gw g0 g1 A (some ⟨g0, off, none⟩) A1 c c0 c1) (hFb : F b ∨ B ≤ b) (hF0 : 0 < c0 → F g0 ∨ B ≤ g0) (hF1 : 0 < c1 → F g1 ∨ B ≤ g1)
    (hb : Below w.heap.size w y) (hA : A' = some ⟨g0, off + 2, none⟩ ∨ c0 = 1) (hw : w' = (y.setCell ⟨b, 12, none⟩ (.string (zz ++ f.text))).setCell ⟨b, 8, none⟩ (.slice A' yy.length (c0 - 1))) :
    POwn F B w' b ⟨⟨r, d, p, ws⟩, nn, up, ses, ⟨x0, yy, a0⟩, ⟨x1, f1, zz ++ f.text⟩⟩ gw A c ∧ Keep F B w w' := by
  subst hw
  have hg := ((hb.grownBy (some b)).trans' (grownBy_setCell y b 12 (.string (zz ++ f.text)))).trans' (grownBy_setCell _ b 8 (.slice A' yy.length (c0 - 1)))
  have hbk := ((h.blk.below hb).set_ 12 (.string (zz ++ f.text))).set_ 8 (.slice A' yy.length (c0 - 1))
  refine ⟨⟨g0, g1, A', A1, c0 - 1, c1, h.own' hbk hg rfl ?_ (h.t1.grown hg h.nb1) (fun h => by omega) id, hFb, fun hc => hF0 (by omega), hF1⟩, Keep.of_grown hg hFb⟩
  have ht := h.t0
  simp only [List.length_cons, List.flatMap_cons] at ht
  exact (ht.next hA).grown hg (fun hc => h.nb0 (by omega))
theorem dlv_fin1 (h : LnO w b ⟨⟨r, d, p, ws⟩, nn, up, ses, ⟨x0, f0, zz⟩, ⟨x1, f :: yy, a1⟩⟩ gw g0 g1 A A0 (some ⟨g1, off, none⟩) c c0 c1) (hFb : F b ∨ B ≤ b) (hF0 : 0 < c0 → F g0 ∨ B ≤ g0) (hF1 : 0 < c1 → F g1 ∨ B ≤ g1)
    (hb : Below w.heap.size w y) (hA : A' = some ⟨g1, off + 2, none⟩ ∨ c1 = 1) (hw : w' = (y.setCell ⟨b, 9, none⟩ (.string (zz ++ f.text))).setCell ⟨b, 11, none⟩ (.slice A' yy.length (c1 - 1))) :
    POwn F B w' b ⟨⟨r, d, p, ws⟩, nn, up, ses, ⟨x0, f0, zz ++ f.text⟩, ⟨x1, yy, a1⟩⟩ gw A c ∧ Keep F B w w' := by
  subst hw
  have hg := ((hb.grownBy (some b)).trans' (grownBy_setCell y b 9 (.string (zz ++ f.text)))).trans' (grownBy_setCell _ b 11 (.slice A' yy.length (c1 - 1)))
  have hbk := ((h.blk.below hb).set_ 9 (.string (zz ++ f.text))).set_ 11 (.slice A' yy.length (c1 - 1))
  refine ⟨⟨g0, g1, A0, A', c0, c1 - 1, h.own' hbk hg rfl (h.t0.grown hg h.nb0) ?_ id (fun h => by omega), hFb, hF0, fun hc => hF1 (by omega)⟩, Keep.of_grown hg hFb⟩
  have ht := h.t1
  simp only [List.length_cons, List.flatMap_cons] at ht
  exact (ht.next hA).grown hg (fun hc => h.nb1 (by omega))
theorem minute_step {now : Int} (hnn : nn = now + 1) (h : POwn F B w b ⟨⟨r, d, p, ws⟩, now, up, ses, ⟨x0, f0, a0⟩, ⟨x1, f1, a1⟩⟩ gw A c) :
    POwn F B (w.setCell ⟨b, 4, none⟩ (.int .i64 (now + 1))) b ⟨⟨r, d, p, ws⟩, nn, up, ses, ⟨x0, f0, a0⟩, ⟨x1, f1, a1⟩⟩ gw A c ∧ Keep F B w (w.setCell ⟨b, 4, none⟩ (.int .i64 (now + 1))) := by
  subst hnn
  obtain ⟨g0, g1, A0, A1, c0, c1, h, hb, h0, h1⟩ := h
  have hg := grownBy_setCell w b 4 (.int .i64 (now + 1))
  exact ⟨⟨g0, g1, A0, A1, c0, c1, h.own (h.blk.set_ 4 _) hg rfl rfl rfl, hb, h0, h1⟩, Keep.of_grown hg hb⟩
theorem flN_of {w : World} {b o n k : Nat} {A : Option Addr} (h : w.cell? ⟨b, o, none⟩ = some (.slice A n k)) : flN b o w = n := by simp [flN, h]
theorem dlv_meas0 {e1 : Ed} {cfg : Cfg} {wr : World} {k : Nat} (h : POwn F B w' b ⟨cfg, nn, up, ses, ⟨x0, yy, a0⟩, e1⟩ gw A c) (hc : wr.cell? ⟨b, 8, none⟩ = some (.slice A' (yy.length + 1) k)) : flN b 8 w' < flN b 8 wr := by
  obtain ⟨g0, g1, A0, A1, c0, c1, h, _⟩ := h
  rw [flN_of hc, flN_of (h.blk.cell 8)]
  exact Nat.lt_succ_self _
theorem dlv_meas1 {e0 : Ed} {cfg : Cfg} {wr : World} {k : Nat} (h : POwn F B w' b ⟨cfg, nn, up, ses, e0, ⟨x1, yy, a1⟩⟩ gw A c) (hc : wr.cell? ⟨b, 11, none⟩ = some (.slice A' (yy.length + 1) k)) : flN b 11 w' < flN b 11 wr := by
  obtain ⟨g0, g1, A0, A1, c0, c1, h, _⟩ := h
  rw [flN_of hc, flN_of (h.blk.cell 11)]
  exact Nat.lt_succ_self _
end
end Go.Proofs.Ytnddahajfcmkiaa
