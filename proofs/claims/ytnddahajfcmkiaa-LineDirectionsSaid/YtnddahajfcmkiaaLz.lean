/- The line: Advance. Conditions: a valid line. -/
import Derived.Test.YtnddahajfcmkiaaPr
import Derived.Test.YtnddahajfcmkiaaLy
namespace Go.Proofs.Ytnddahajfcmkiaa
set_option linter.unusedSimpArgs false
set_option linter.unusedVariables false
set_option linter.unnecessarySimpa false
open Go.RowKit

theorem pass_any {F : Nat → Prop} {B : Nat} {w : World} {b gw c : Nat} {L : Ln} {A : Option Addr} (hL : POwn F B w b L gw A c) (hB : B ≤ w.heap.size) (hv : LnV L) (hn : L.now + 1 ≤ 10000000) :
    Calls Try.prog 51 #[.pointer (some ⟨b, 0, none⟩)] w fun e w' => e = .returned (.tuple #[]) ∧ POwn F B w' b (passL L) gw A c ∧ Keep F B w w' := by
  obtain ⟨⟨r, d, p, ws⟩, now, up, ses, ⟨x0, f0, a0⟩, ⟨x1, f1, a1⟩⟩ := L
  have hcd := chk_del hv.ok
  have l0 := len_wayN hv.e0.ne
  have l1 := len_wayN hv.e1.ne
  have tot := hv.tot
  have n0 := hv.n0
  have n1 := hv.n1
  have s0 := hv.s0
  have s1 := hv.s1
  simp only [totL, totE] at hcd l0 l1 tot n0 n1 s0 s1 hn
  cases up
  · have e : passL ⟨⟨r, d, p, ws⟩, now, false, ses, ⟨x0, f0, a0⟩, ⟨x1, f1, a1⟩⟩ = riseL (dlvL 2 ⟨⟨r, d, p, ws⟩, now + 1, false, ses, ⟨x0, f0, a0⟩, ⟨x1, f1, a1⟩⟩) := by simp [passL]
    rw [e]
    exact pass_down r d p now (now + 1) ses ws x0 x1 a0 a1 f0 f1 b c gw A w hL hB rfl (by omega) hv.ok (by omega) (by omega)
  · have e : passL ⟨⟨r, d, p, ws⟩, now, true, ses, ⟨x0, f0, a0⟩, ⟨x1, f1, a1⟩⟩ = passEnd (winC ⟨r, d, p, ws⟩ (now + 1)).2.2 (dlvL 2 ⟨⟨r, d, p, ws⟩, now + 1, true, ses, launchE r now d ⟨x0, f0, a0⟩, launchE r now d ⟨x1, f1, a1⟩⟩) := by simp [passL]
    rw [e]
    exact pass_up r d p now (now + 1) ses ws x0 x1 a0 a1 f0 f1 b c gw A w hL hB (by omega) (by omega) (by omega) rfl (by omega) hv.ok (by omega) (by omega) (by omega) (by omega)
theorem POwn.now {F : Nat → Prop} {B : Nat} {w : World} {b gw c : Nat} {L : Ln} {A : Option Addr} (hL : POwn F B w b L gw A c) : w.cell? ⟨b, 4, none⟩ = some (.int .i64 L.now) ∧ w.frozen? ⟨b, 4, none⟩ = false := by
  obtain ⟨g0, g1, A0, A1, c0, c1, h, _⟩ := hL
  exact ⟨h.at.now, h.blk.frozen 4⟩
theorem POwn.age {F : Nat → Prop} {B : Nat} {w : World} {b gw c : Nat} {L : Ln} {A : Option Addr} (n : Int) (hL : POwn F B w b L gw A c) : POwn F B (w.setCell ⟨b, 4, none⟩ (.int .i64 n)) b { L with now := n } gw A c ∧ Keep F B w (w.setCell ⟨b, 4, none⟩ (.int .i64 n)) := by
  obtain ⟨g0, g1, A0, A1, c0, c1, h, hb, h0, h1⟩ := hL
  have hg := grownBy_setCell w b 4 (.int .i64 n)
  exact ⟨⟨g0, g1, A0, A1, c0, c1, h.own (h.blk.set_ 4 _) hg rfl rfl rfl, hb, h0, h1⟩, Keep.of_grown hg hb⟩
def nowN (b : Nat) (w : World) : Nat := match w.cell? ⟨b, 4, none⟩ with | some (.int _ n) => n.toNat | _ => 0
theorem POwn.nowN {F : Nat → Prop} {B : Nat} {w : World} {b gw c : Nat} {L : Ln} {A : Option Addr} (hL : POwn F B w b L gw A c) : nowN b w = L.now.toNat := by simp [Go.Proofs.Ytnddahajfcmkiaa.nowN, hL.now.1]
theorem advance_err {w : World} {b gw g0 g1 c c0 c1 : Nat} {L : Ln} {A A0 A1 : Option Addr} (n : Int) (h : LnAt w b L gw g0 g1 A A0 A1 c c0 c1) (hn0 : 0 ≤ L.now) (hn1 : L.now ≤ 10000000) (hx : n < 0 ∨ 10000000 - L.now < n) :
    Calls Try.prog 30 #[.pointer (some ⟨b, 0, none⟩), .int .i64 n] w fun e w' => e = .returned (.int .i64 2) ∧ w = w' := by
  have hc := h.now
  obtain ⟨now, hnow⟩ : ∃ m, m = L.now := ⟨_, rfl⟩
  rw [← hnow] at hc hn0 hn1 hx
  clear h hnow
  by_cases hneg : n < 0
  · clear hx
    go_enter Try.func30, Try.ntmps30
    go_wp2
    go_ret
    exact ⟨rfl, rfl⟩
  · have hbig : 10000000 - now < n := by omega
    clear hx
    go_enter Try.func30, Try.ntmps30
    go_wp2
    go_ret
    exact ⟨rfl, rfl⟩
set_option maxRecDepth 20000 in
set_option maxHeartbeats 4000000 in
theorem advance_walk {F : Nat → Prop} {B : Nat} {w : World} {b gw c : Nat} {L : Ln} {A : Option Addr} (n : Nat) (hL : POwn F B w b L gw A c) (hB : B ≤ w.heap.size) (hv : LnV L) (now to : Int) (hnow : L.now = now) (hto : now + n = to) (hn0 : 0 ≤ now) (hn : to ≤ 10000000) :
    Calls Try.prog 30 #[.pointer (some ⟨b, 0, none⟩), .int .i64 n] w fun e w' => e = .returned (.int .i64 0) ∧ POwn F B w' b (passN n L) gw A c ∧ Keep F B w w' := by
  have hc := hL.now.1
  rw [hnow] at hc
  have HL := Lib.hid hL
  have HBB := Lib.hid hB
  have HV := Lib.hid hv
  have HNOW := Lib.hid hnow
  have hle : (n : Int) ≤ 10000000 - now := by omega
  have HTO := Lib.hid hto
  clear hL hB hv hnow hto
  go_enter Try.func30, Try.ntmps30
  go_wp2
  rw [HTO.out]
  clear hc hle
  go_loopw [6] (fun _ wr => ∃ k : Nat, k ≤ n ∧ Hid (POwn F B wr b (passN k L) gw A c) ∧ Hid (Keep F B w wr)) (fun _ wr => n - (nowN b wr - now.toNat))
  case atStart => exact ⟨0, Nat.zero_le _, HL, Lib.hid (Keep.refl _ _ _)⟩
  case round =>
    obtain ⟨k, hk, HP, HKP⟩ := hrel
    have HBS := Lib.hid (Nat.le_trans HBB.out HKP.out.size)
    have hcf := passN_cfg k L
    have hvk := passN_ok (k := k) HV.out (by have := HNOW.out; have := HTO.out; omega)
    rw [HNOW.out] at hcf
    obtain ⟨LK, hLK⟩ : ∃ X, X = passN k L := ⟨_, rfl⟩
    rw [← hLK] at hcf hvk HP
    have HLK := Lib.hid hLK
    have HVK := Lib.hid hvk
    obtain ⟨nk, hnk⟩ : ∃ m : Int, m = now + k := ⟨_, rfl⟩
    have hnk' : LK.now = nk := by rw [hcf.2, hnk]
    have HNK := Lib.hid hnk'
    have hc := HP.out.now.1
    rw [hnk'] at hc
    have HNKE := Lib.hid hnk
    have HTB := HTO.out
    clear hLK hvk hnk' hcf
    by_cases hlt : k < n
    · have hnt : nk < to := by omega
      have hnk0 : 0 ≤ nk := by omega
      obtain ⟨g0, g1, A0, A1, c0, c1, hln, hf⟩ := HP.out
      have HLN := Lib.hid hln
      have HFF := Lib.hid hf
      obtain ⟨q, hq⟩ : ∃ q, q = quietL LK := ⟨_, rfl⟩
      have HQ := Lib.hid hq
      have HKT := Lib.hid (show now + k < to by omega)
      have HN1 := Lib.hid (show nk ≤ 10000000 by omega)
      clear hln hf hq hnk HTB
      have hqr : Calls Try.prog 50 #[.pointer (some ⟨b, 0, none⟩)] wr fun e w' => e = .returned (.int .i64 q) ∧ Below wr.heap.size wr w' := by
        rw [HQ.out]
        exact quiet_any HLN.out HVK.out.ok HVK.out.n0 HVK.out.n1
      have HQR := Lib.hid hqr
      clear hqr
      by_cases hskip : nk < q
      · have HSK := Lib.hid hskip
        by_cases htq : to < q
        · have HBD := Lib.hid htq
          go_wp2_with (go_at_call 50; (refine HQR.out.mono ?_; rintro e y1 ⟨he, hb1⟩; subst he; have HB1 := Lib.hid hb1; have hc1 := (HP.out.below hb1).now.1; have hf1 := (HP.out.below hb1).now.2; rw [HNK.out] at hc1; clear hb1))
          have EQS : Hid (passN (k + (n - k)) L = { LK with now := to }) := Lib.hid (by rw [Nat.add_comm, passN_add, ← HLK.out, skip_ok HVK.out (by rw [HNK.out, ← HQ.out]; exact HSK.out) (k := n - k) (by rw [HNK.out, ← HQ.out]; have := HNKE.out; have := HTO.out; have := HBD.out; omega), HNK.out]; congr 1; have := HNKE.out; have := HTO.out; have := HBD.out; omega)
          have FIN := Lib.hid ((HP.out.below HB1.out).age to)
          go_roundw
          case rel => exact ⟨k + (n - k), by omega, Lib.hid (by rw [EQS.out]; exact FIN.out.1), Lib.hid ((HKP.out.trans (Keep.of_below HB1.out)).trans FIN.out.2)⟩
          case measure => rw [FIN.out.1.nowN, HP.out.nowN, HNK.out]; simp only; have := HNKE.out; have := HTO.out; omega
        · have HBD := Lib.hid (show ¬ to < q ∧ nk < q from ⟨htq, hskip⟩)
          go_wp2_with (go_at_call 50; (refine HQR.out.mono ?_; rintro e y1 ⟨he, hb1⟩; subst he; have HB1 := Lib.hid hb1; have hc1 := (HP.out.below hb1).now.1; have hf1 := (HP.out.below hb1).now.2; rw [HNK.out] at hc1; clear hb1))
          have EQS : Hid (passN (k + (q - nk).toNat) L = { LK with now := q }) := Lib.hid (by rw [Nat.add_comm, passN_add, ← HLK.out, skip_ok HVK.out (by rw [HNK.out, ← HQ.out]; exact HSK.out) (k := (q - nk).toNat) (by rw [HNK.out, ← HQ.out]; have := HBD.out; omega), HNK.out]; congr 1; have := HNKE.out; have := HTO.out; have := HBD.out; omega)
          have FIN := Lib.hid ((HP.out.below HB1.out).age q)
          go_roundw
          case rel => exact ⟨k + (q - nk).toNat, by have := HNKE.out; have := HTO.out; omega, Lib.hid (by rw [EQS.out]; exact FIN.out.1), Lib.hid ((HKP.out.trans (Keep.of_below HB1.out)).trans FIN.out.2)⟩
          case measure => rw [FIN.out.1.nowN, HP.out.nowN, HNK.out]; simp only; have := HNKE.out; have := HTO.out; omega
      · have hqt : ¬ to < q := by omega
        go_wp2_with (first
          | (go_at_call 50; (refine HQR.out.mono ?_; rintro e y1 ⟨he, hb1⟩; subst he; have HB1 := Lib.hid hb1; have HP1 := Lib.hid (HP.out.below hb1); have hc1 := HP1.out.now.1; rw [HNK.out] at hc1; have hpr := pass_any HP1.out (Nat.le_trans HBS.out hb1.size) HVK.out (by rw [HNK.out]; have := HNKE.out; have := HKT.out; omega); have HPR := Lib.hid hpr; clear hb1 hpr))
          | (go_at_call 51; (refine HPR.out.mono ?_; rintro e y2 ⟨rfl, h1, h2⟩; have H1 := Lib.hid h1; have H2 := Lib.hid h2; clear h1 h2)))
        go_roundw
        case rel => exact ⟨k + 1, by omega, Lib.hid (by rw [passN, ← HLK.out]; exact H1.out), Lib.hid ((HKP.out.trans (Keep.of_below HB1.out)).trans H2.out)⟩
        case measure => rw [H1.out.nowN, HP.out.nowN, (pass_cfg LK).2, HNK.out]; have := HNKE.out; have := HKT.out; omega
    · obtain rfl : k = n := by omega
      have hnt : nk = to := by omega
      clear hnk HTB hlt hk
      subst hnt
      go_wp2
      go_ret
      exact ⟨rfl, by rw [← HLK.out]; exact HP.out, HKP.out⟩
end Go.Proofs.Ytnddahajfcmkiaa
