/- The line: fall. Conditions: none. -/
import Derived.Test.YtnddahajfcmkiaaLp
namespace Go.Proofs.Ytnddahajfcmkiaa
set_option linter.unusedSimpArgs false
set_option linter.unusedVariables false
set_option linter.unnecessarySimpa false
open Go.RowKit

def fallL (L : Ln) : Ln := { L with up := false, l := { L.l with wait := ⟨#[]⟩, fl := [] }, r := { L.r with wait := ⟨#[]⟩, fl := [] } }
theorem grown_drew {w w' : World} {row : Option Nat} (h : w.grownBy w' row) : w.grownBy w'.drew row := ⟨h.os, h.tape, h.output, h.size, h.block⟩
set_option maxRecDepth 20000 in
set_option maxHeartbeats 2000000 in
theorem fall_walk (r d p now ses : Int) (up : Bool) (nw : Nat) (A A0 A1 : Option Addr) (b c n0 n1 c0 c1 : Nat) (s0 s1 a0 a1 : ByteArray) (w : World)
    (hL : Blk w b 87 (L87 r d p A nw c now up ses s0 A0 n0 c0 a0 s1 A1 n1 c1 a1).toArray) :
    Calls Try.prog 52 #[.pointer (some ⟨b, 0, none⟩)] w fun e w' => e = .returned (.tuple #[]) ∧ Blk w' b 87 (L87 r d p A nw c now false ses ⟨#[]⟩ none 0 0 a0 ⟨#[]⟩ none 0 0 a1).toArray ∧ w.grownBy w' (some b) := by
  have hc5 : w.cell? ⟨b, 5, none⟩ = some (.bool up) := hL.cell 5
  have hf5 := hL.frozen 5
  have LN5 := Lib.hid (hL.set_ 5 (.bool false))
  have HG5 := Lib.hid (grownBy_setCell w b 5 (.bool false))
  clear hL
  go_enter Try.func52, Try.ntmps52
  go_wp2
  clear hc5 hf5
  go_loopw [6] (fun kv wr => ∃ k : Nat, k ≤ 2 ∧ kv = .int .i64 k ∧ Hid (∃ x0 B0 m0 d0 x1 B1 m1 d1, Blk wr b 87 (L87 r d p A nw c now false ses x0 B0 m0 d0 a0 x1 B1 m1 d1 a1).toArray ∧ (0 < k → x0 = ⟨#[]⟩ ∧ B0 = none ∧ m0 = 0 ∧ d0 = 0) ∧ (1 < k → x1 = ⟨#[]⟩ ∧ B1 = none ∧ m1 = 0 ∧ d1 = 0)) ∧ Hid (w.grownBy wr (some b))) (fun kv _ => 2 - (intOf kv).toNat)
  case atStart => exact ⟨0, by omega, rfl, Lib.hid ⟨s0, A0, n0, c0, s1, A1, n1, c1, LN5.out, fun h => by omega, fun h => by omega⟩, HG5⟩
  case round =>
    obtain ⟨k, hk, rfl, HX, HGW⟩ := hrel
    obtain ⟨x0, B0, m0, d0, x1, B1, m1, d1, hbl, e0, e1⟩ := HX.out
    have HBL := Lib.hid hbl
    have HE := Lib.hid (And.intro e0 e1)
    clear hbl e0 e1 HX
    rcases (by omega : k = 0 ∨ k = 1 ∨ k = 2) with rfl | rfl | rfl
    · have hf1 := HBL.out.frozen 7
      have hc1 : wr.cell? ⟨b, 7, none⟩ = some (.string x0) := HBL.out.cell 7
      have hf2 := HBL.out.frozen 8
      have hc2 : wr.cell? ⟨b, 8, none⟩ = some (.slice B0 m0 d0) := HBL.out.cell 8
      go_wp2
      go_region
      go_wp2
      go_roundw
      case rel => exact ⟨1, by omega, by go_num, Lib.hid ⟨⟨#[]⟩, none, 0, 0, x1, B1, m1, d1, (HBL.out.set_ 7 (.string ⟨#[]⟩)).set_ 8 (.slice none 0 0), fun _ => ⟨rfl, rfl, rfl, rfl⟩, fun h => by omega⟩, Lib.hid (grown_drew ((HGW.out.trans' (grownBy_setCell _ b 7 _)).trans' (grownBy_setCell _ b 8 _)))⟩
      case measure => simp [intOf]
    · have hf1 := HBL.out.frozen 10
      have hc1 : wr.cell? ⟨b, 10, none⟩ = some (.string x1) := HBL.out.cell 10
      have hf2 := HBL.out.frozen 11
      have hc2 : wr.cell? ⟨b, 11, none⟩ = some (.slice B1 m1 d1) := HBL.out.cell 11
      go_wp2
      go_region
      go_wp2
      go_roundw
      case rel => exact ⟨2, by omega, by go_num, Lib.hid ⟨x0, B0, m0, d0, ⟨#[]⟩, none, 0, 0, (HBL.out.set_ 10 (.string ⟨#[]⟩)).set_ 11 (.slice none 0 0), fun _ => HE.out.1 (by omega), fun _ => ⟨rfl, rfl, rfl, rfl⟩⟩, Lib.hid (grown_drew ((HGW.out.trans' (grownBy_setCell _ b 10 _)).trans' (grownBy_setCell _ b 11 _)))⟩
      case measure => simp [intOf]
    · obtain ⟨rfl, rfl, rfl, rfl⟩ := HE.out.1 (by omega)
      obtain ⟨rfl, rfl, rfl, rfl⟩ := HE.out.2 (by omega)
      go_wp2
      first | go_end0 | refine bodyPost_ret (results_none rfl _ _ _) rfl ?_
      exact ⟨rfl, HBL.out, HGW.out⟩
section
variable {w w' : World} {b gw g0 g1 c c0 c1 n g : Nat} {L : Ln} {A A0 A1 : Option Addr} {xs : List Value}
/-- a change in the line's own block alone, its flights given up -/
theorem LnO.own0 {L' : Ln} (h : LnO w b L gw g0 g1 A A0 A1 c c0 c1) (hb : Blk w' b 87 (lnc L' A none none c 0 0).toArray) (hg : w.grownBy w' (some b)) (hc : L'.cfg = L.cfg) (h0 : L'.l.fl = []) (h1 : L'.r.fl = []) : LnO w' b L' gw g0 g1 A none none c 0 0 := by
  refine ⟨hb, ?_, ?_, ?_, by rw [h0]; exact OT.nil _ _, by rw [h1]; exact OT.nil _ _, fun h => absurd h (by omega)⟩
  · rw [hc]
    rcases Nat.eq_zero_or_pos L.cfg.ws.length with he | he
    · have := h.rw_
      rw [he] at this ⊢
      have e : L.cfg.ws.flatMap winc = [] := List.eq_nil_of_length_eq_zero (by simpa using this.1)
      rw [e]; exact Rd.nil _ _ _ _
    · exact h.rw_.grown hg (by simpa using h.nbw he)
  · rw [hc]
    intro he
    obtain ⟨cs, hb⟩ := h.tw he
    exact ⟨cs, hb.grown hg (by simpa using h.nbw he)⟩
  · rw [hc]; exact h.lw
theorem fall_any (h : LnO w b L gw g0 g1 A A0 A1 c c0 c1) :
    Calls Try.prog 52 #[.pointer (some ⟨b, 0, none⟩)] w fun e w' => e = .returned (.tuple #[]) ∧ LnO w' b (fallL L) gw g0 g1 A none none c 0 0 ∧ w.grownBy w' (some b) := by
  refine (fall_walk L.cfg.rate L.cfg.delay L.cfg.period L.now L.ses L.up L.cfg.ws.length A A0 A1 b c L.l.fl.length L.r.fl.length c0 c1 L.l.wait L.r.wait L.l.arr L.r.arr w h.blk).mono ?_
  rintro e w' ⟨rfl, hb, hg⟩
  exact ⟨rfl, h.own0 hb hg rfl rfl rfl, hg⟩
set_option maxHeartbeats 1000000 in
theorem drop_ok (h : LnO w b L gw g0 g1 A A0 A1 c c0 c1) (hu : L.up = true) :
    Calls Try.prog 31 #[.pointer (some ⟨b, 0, none⟩)] w fun e w' => e = .returned (.int .i64 0) ∧ LnO w' b (fallL L) gw g0 g1 A none none c 0 0 ∧ w.grownBy w' (some b) := by
  have hc := h.at.up
  rw [hu] at hc
  have HL := Lib.hid h
  clear h hu
  go_enter Try.func31, Try.ntmps31
  go_wp2_with (go_at_call 52; (refine (fall_any HL.out).mono ?_; rintro e w1 ⟨rfl, h1, h2⟩; have H1 := Lib.hid h1; have H2 := Lib.hid h2; clear h1 h2))
  go_ret
  exact ⟨rfl, H1.out, H2.out⟩
end
end Go.Proofs.Ytnddahajfcmkiaa
