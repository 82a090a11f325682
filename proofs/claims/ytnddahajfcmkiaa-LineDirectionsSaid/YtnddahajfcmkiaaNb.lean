/- The line's methods as steps of a line that a law owns. Conditions: a valid line. -/
import Derived.Test.YtnddahajfcmkiaaNa
namespace Go.Proofs.Ytnddahajfcmkiaa
set_option linter.unusedSimpArgs false
set_option linter.unusedVariables false
set_option linter.unnecessarySimpa false
open Go.RowKit
def advL (L : Ln) (n : Int) : Ln × Int := if n < 0 ∨ 10000000 - L.now < n then (L, 2) else (passN n.toNat L, 0)
def dropL (L : Ln) : Ln × Int := if L.up = true then (fallL L, 0) else (L, 26)
section
variable {F : Nat → Prop} {B : Nat} {w : World} {b gw c : Nat} {L : Ln} {A : Option Addr}
theorem p_now (h : POwn F B w b L gw A c) : Calls Try.prog 25 #[.pointer (some ⟨b, 0, none⟩)] w fun e w' => e = .returned (.int .i64 L.now) ∧ w = w' := by
  obtain ⟨g0, g1, A0, A1, c0, c1, h, _⟩ := h
  exact now_any h.at
theorem p_up (h : POwn F B w b L gw A c) : Calls Try.prog 26 #[.pointer (some ⟨b, 0, none⟩)] w fun e w' => e = .returned (.bool L.up) ∧ w = w' := by
  obtain ⟨g0, g1, A0, A1, c0, c1, h, _⟩ := h
  exact up_any h.at
theorem p_ses (h : POwn F B w b L gw A c) : Calls Try.prog 27 #[.pointer (some ⟨b, 0, none⟩)] w fun e w' => e = .returned (.int .i64 L.ses) ∧ w = w' := by
  obtain ⟨g0, g1, A0, A1, c0, c1, h, _⟩ := h
  exact session_any h.at
theorem p_wait (s : Int) (h : POwn F B w b L gw A c) : Calls Try.prog 28 #[.pointer (some ⟨b, 0, none⟩), .int .i64 s] w fun e w' => e = .returned (.int .i64 (if validS s then ((L.ed s).wait.size : Int) else 0)) ∧ w = w' := by
  obtain ⟨g0, g1, A0, A1, c0, c1, h, _⟩ := h
  exact waiting_any s h.at
theorem p_way (s : Int) (h : POwn F B w b L gw A c) (hv : LnV L) : Calls Try.prog 29 #[.pointer (some ⟨b, 0, none⟩), .int .i64 s] w fun e w' => e = .returned (.int .i64 (if validS s then (wayN (L.ed s).fl : Int) else 0)) ∧ Below w.heap.size w w' := by
  obtain ⟨g0, g1, A0, A1, c0, c1, h, _⟩ := h
  have h0 := len_wayN hv.e0.ne
  have h1 := len_wayN hv.e1.ne
  have ht := hv.tot
  unfold totL totE at ht
  exact underway_any s h.at (by omega) (by omega) (by omega) (by omega)
theorem p_send (s : Int) (t : ByteArray) (h : POwn F B w b L gw A c) (hv : LnV L) (ht : t.size ≤ 4611686018427387904) :
    Calls Try.prog 23 #[.pointer (some ⟨b, 0, none⟩), .int .i64 s, .string t] w fun e w' => e = .returned (.int .i64 (sendL L s t).2) ∧ POwn F B w' b (sendL L s t).1 gw A c ∧ Keep F B w w' := by
  obtain ⟨g0, g1, A0, A1, c0, c1, h, hb, h0, h1⟩ := h
  have htt := hv.tot
  unfold totL totE at htt
  exact (send_any s t h (by omega) (by omega) ht).mono fun e w' ⟨he, h2, h3⟩ => ⟨he, ⟨g0, g1, A0, A1, c0, c1, h2, hb, h0, h1⟩, Keep.of_grown h3 hb⟩
theorem p_recv (s m : Int) (h : POwn F B w b L gw A c) :
    Calls Try.prog 24 #[.pointer (some ⟨b, 0, none⟩), .int .i64 s, .int .i64 m] w fun e w' => e = .returned (.tuple #[.string (recvL L s m).2.1, .int .i64 (recvL L s m).2.2]) ∧ POwn F B w' b (recvL L s m).1 gw A c ∧ Keep F B w w' := by
  obtain ⟨g0, g1, A0, A1, c0, c1, h, hb, h0, h1⟩ := h
  exact (receive_any s m h).mono fun e w' ⟨he, h2, h3⟩ => ⟨he, ⟨g0, g1, A0, A1, c0, c1, h2, hb, h0, h1⟩, Keep.of_grown h3 hb⟩
theorem p_adv (n : Int) (h : POwn F B w b L gw A c) (hB : B ≤ w.heap.size) (hv : LnV L) :
    Calls Try.prog 30 #[.pointer (some ⟨b, 0, none⟩), .int .i64 n] w fun e w' => e = .returned (.int .i64 (advL L n).2) ∧ POwn F B w' b (advL L n).1 gw A c ∧ Keep F B w w' := by
  by_cases hx : n < 0 ∨ 10000000 - L.now < n
  · have e : advL L n = (L, 2) := by simp [advL, hx]
    rw [e]
    obtain ⟨g0, g1, A0, A1, c0, c1, h2, hh⟩ := h
    exact (advance_err n h2.at hv.n0 hv.n1 hx).mono fun e w' ⟨he, hw⟩ => by subst hw; exact ⟨he, ⟨g0, g1, A0, A1, c0, c1, h2, hh⟩, Keep.refl _ _ _⟩
  · have e : advL L n = (passN n.toNat L, 0) := by simp only [advL, hx, if_false]
    rw [e]
    have hn := hv.n0
    have := advance_walk n.toNat h hB hv L.now (L.now + n) rfl (by omega) hn (by omega)
    rwa [show ((n.toNat : Nat) : Int) = n by omega] at this
theorem p_drop (h : POwn F B w b L gw A c) :
    Calls Try.prog 31 #[.pointer (some ⟨b, 0, none⟩)] w fun e w' => e = .returned (.int .i64 (dropL L).2) ∧ POwn F B w' b (dropL L).1 gw A c ∧ Keep F B w w' := by
  obtain ⟨g0, g1, A0, A1, c0, c1, h, hb, h0, h1⟩ := h
  cases hu : L.up
  · have e : dropL L = (L, 26) := by simp [dropL, hu]
    rw [e]
    exact (drop_closed h.at hu).mono fun e w' ⟨he, hw⟩ => by subst hw; exact ⟨he, ⟨g0, g1, A0, A1, c0, c1, h, hb, h0, h1⟩, Keep.refl _ _ _⟩
  · have e : dropL L = (fallL L, 0) := by simp [dropL, hu]
    rw [e]
    exact (drop_ok h hu).mono fun e w' ⟨he, h2, h3⟩ => ⟨he, ⟨g0, g1, none, none, 0, 0, h2, hb, fun h => absurd h (by omega), fun h => absurd h (by omega)⟩, Keep.of_grown h3 hb⟩
end
/-! ### what is kept -/
theorem new_v {c : Cfg} (h : chkC c = 0) : LnV (newL c) := by
  have hz : (⟨#[]⟩ : ByteArray).size = 0 := rfl
  have ht : ∀ (u : Bool) (s : Int), totL ⟨c, 0, u, s, ⟨⟨#[]⟩, [], ⟨#[]⟩⟩, ⟨⟨#[]⟩, [], ⟨#[]⟩⟩⟩ ≤ 90000 := fun u s => by simp only [totL, totE, wayN, List.map_nil, List.sum_nil, hz]; omega
  unfold newL riseL
  split
  · exact ⟨h, by simp, by simp, by simp, by simp, EdV.nil, EdV.nil, (fun h => by cases h), ht _ _⟩
  · exact ⟨h, by simp, by simp, by simp, by simp, EdV.nil, EdV.nil, fun _ => ⟨rfl, rfl, rfl, rfl⟩, ht _ _⟩
theorem totL_l (L : Ln) (x : ByteArray) : totL { L with l := { L.l with wait := L.l.wait ++ x } } = totL L + x.size := by simp only [totL, totE, ByteArray.size_append]; omega
theorem totL_r (L : Ln) (x : ByteArray) : totL { L with r := { L.r with wait := L.r.wait ++ x } } = totL L + x.size := by simp only [totL, totE, ByteArray.size_append]; omega
theorem send_v {L : Ln} {s : Int} {t : ByteArray} (hv : LnV L) (ht : totL L + t.size ≤ 90000) : LnV (sendL L s t).1 ∧ totL (sendL L s t).1 ≤ totL L + t.size := by
  unfold sendL
  split
  · exact ⟨hv, Nat.le_add_right _ _⟩
  split
  · exact ⟨hv, Nat.le_add_right _ _⟩
  split
  · exact ⟨hv, Nat.le_add_right _ _⟩
  · rename_i hu _
    by_cases h0 : s = 0
    · simp only [h0, if_true]
      exact ⟨⟨hv.ok, hv.n0, hv.n1, hv.s0, hv.s1, hv.e0.arr, hv.e1, fun h => absurd h hu, by rw [totL_l]; exact ht⟩, by rw [totL_l]; exact Nat.le_refl _⟩
    · simp only [h0, if_false]
      exact ⟨⟨hv.ok, hv.n0, hv.n1, hv.s0, hv.s1, hv.e0, hv.e1.arr, fun h => absurd h hu, by rw [totL_r]; exact ht⟩, by rw [totL_r]; exact Nat.le_refl _⟩
theorem recv_v {L : Ln} {s m : Int} (hv : LnV L) : LnV (recvL L s m).1 ∧ totL (recvL L s m).1 ≤ totL L := by
  unfold recvL
  split
  · exact ⟨hv, Nat.le_refl _⟩
  · have ht := hv.tot
    simp only
    split
    · have hz : totL { L with l := { L.l with arr := L.l.arr.extract (recN m L.l.arr.size) L.l.arr.size } } ≤ totL L := by
        simp only [totL, totE, ByteArray.size_extract]; omega
      exact ⟨⟨hv.ok, hv.n0, hv.n1, hv.s0, hv.s1, hv.e0.arr, hv.e1, hv.dn, Nat.le_trans hz ht⟩, hz⟩
    · have hz : totL { L with r := { L.r with arr := L.r.arr.extract (recN m L.r.arr.size) L.r.arr.size } } ≤ totL L := by
        simp only [totL, totE, ByteArray.size_extract]; omega
      exact ⟨⟨hv.ok, hv.n0, hv.n1, hv.s0, hv.s1, hv.e0, hv.e1.arr, hv.dn, Nat.le_trans hz ht⟩, hz⟩
theorem fall_v {L : Ln} (hv : LnV L) : LnV (fallL L) ∧ totL (fallL L) ≤ totL L := by
  have hz : (⟨#[]⟩ : ByteArray).size = 0 := rfl
  have h : totL (fallL L) ≤ totL L := by
    simp only [totL, totE, fallL, hz, wayN, List.map_nil, List.sum_nil]; omega
  exact ⟨⟨hv.ok, hv.n0, hv.n1, hv.s0, hv.s1, EdV.nil, EdV.nil, fun _ => ⟨rfl, rfl, rfl, rfl⟩, Nat.le_trans h hv.tot⟩, h⟩
theorem drop_v {L : Ln} (hv : LnV L) : LnV (dropL L).1 ∧ totL (dropL L).1 ≤ totL L := by
  unfold dropL
  split
  · exact fall_v hv
  · exact ⟨hv, Nat.le_refl _⟩
theorem rise_tot (L : Ln) : totL (riseL L) ≤ totL L := by
  have hz : (⟨#[]⟩ : ByteArray).size = 0 := rfl
  unfold riseL
  split
  · simp only [totL, totE, hz]; omega
  · exact Nat.le_refl _
theorem fall_tot (L : Ln) : totL (fallL L) ≤ totL L := by
  have hz : (⟨#[]⟩ : ByteArray).size = 0 := rfl
  simp only [totL, totE, fallL, hz, wayN, List.map_nil, List.sum_nil]; omega
theorem dlv_tot (cfg : Cfg) (n : Int) (u : Bool) (s : Int) (e0 e1 : Ed) : totL (dlvL 2 ⟨cfg, n, u, s, e0, e1⟩) = totE e0 + totE e1 := by
  have q0 := dlvF_tot n e0.fl e1.arr
  have q1 := dlvF_tot n e1.fl e0.arr
  simp only [totL, totE, dlvL, show (0 : Nat) < 2 from by decide, show (1 : Nat) < 2 from by decide, if_true]
  omega
theorem launch_tot (r n d : Int) (e : Ed) : totE (launchE r n d e) = totE e := by
  have := launchE_tot (r := r) (now := n) (d := d) (e := e)
  simp only [totE, this.2]; omega
theorem pass_tot (L : Ln) : totL (passL L) ≤ totL L := by
  unfold passL passEnd
  split
  · split
    · rw [dlv_tot, launch_tot, launch_tot]; exact Nat.le_refl _
    · refine Nat.le_trans (fall_tot _) ?_
      rw [dlv_tot, launch_tot, launch_tot]; exact Nat.le_refl _
  · refine Nat.le_trans (rise_tot _) ?_
    rw [dlv_tot]; exact Nat.le_refl _
theorem passN_tot (k : Nat) (L : Ln) : totL (passN k L) ≤ totL L := by
  induction k with
  | zero => exact Nat.le_refl _
  | succ k ih => exact Nat.le_trans (pass_tot _) ih
theorem adv_v {L : Ln} {n : Int} (hv : LnV L) : LnV (advL L n).1 ∧ totL (advL L n).1 ≤ totL L := by
  unfold advL
  split
  · exact ⟨hv, Nat.le_refl _⟩
  · exact ⟨passN_ok hv (by omega), passN_tot _ _⟩
end Go.Proofs.Ytnddahajfcmkiaa
