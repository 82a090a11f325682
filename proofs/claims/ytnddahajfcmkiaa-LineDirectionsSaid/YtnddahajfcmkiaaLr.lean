/- The line: Receive. Conditions: none. -/
import Derived.Test.YtnddahajfcmkiaaLq
namespace Go.Proofs.Ytnddahajfcmkiaa
set_option linter.unusedSimpArgs false
set_option linter.unusedVariables false
set_option linter.unnecessarySimpa false
open Go.RowKit
section
variable {w : World} {b gw g0 g1 c c0 c1 : Nat} {L : Ln} {A A0 A1 : Option Addr}
theorem receive_range (s m : Int) (hv : validS s = false ∨ m < 0) : Calls Try.prog 24 #[.pointer (some ⟨b, 0, none⟩), .int .i64 s, .int .i64 m] w fun e w' => e = .returned (.tuple #[.string ⟨#[]⟩, .int .i64 2]) ∧ w = w' := by
  cases hs : validS s
  · have HV := Lib.hid hs
    clear hs hv
    go_enter Try.func24, Try.ntmps24
    go_wp2_with (go_at_call 49; refine (valid_any s w).mono ?_; rintro e w' ⟨he, rfl⟩; rw [HV.out] at he; subst he)
    go_ret2
    exact ⟨rfl, rfl⟩
  · have hm : m < 0 := by rw [hs] at hv; simpa using hv
    have HV := Lib.hid hs
    clear hs hv
    go_enter Try.func24, Try.ntmps24
    go_wp2_with (go_at_call 49; refine (valid_any s w).mono ?_; rintro e w' ⟨he, rfl⟩; rw [HV.out] at he; subst he)
    go_ret2
    exact ⟨rfl, rfl⟩
def recN (m : Int) (n : Nat) : Nat := (min m n).toNat
theorem ba_all (x : ByteArray) : x.extract 0 x.size = x := by simp
theorem ba_none (x : ByteArray) : x.extract x.size x.size = ByteArray.empty := by simp
set_option maxHeartbeats 1000000 in
theorem receive_any0 (m : Int) (h : LnO w b L gw g0 g1 A A0 A1 c c0 c1) (h0 : 0 ≤ m) : Calls Try.prog 24 #[.pointer (some ⟨b, 0, none⟩), .int .i64 0, .int .i64 m] w fun e w' => e = .returned (.tuple #[.string (L.l.arr.extract 0 (recN m L.l.arr.size)), .int .i64 0]) ∧ w' = w.setCell ⟨b, 9, none⟩ (.string (L.l.arr.extract (recN m L.l.arr.size) L.l.arr.size)) := by
  rcases Int.lt_trichotomy m L.l.arr.size with hm | hm | hm
  · have e : recN m L.l.arr.size = m.toNat := by unfold recN; rw [Int.min_eq_left (by omega)]
    rw [e]
    clear e
    have hw0 : w.cell? ⟨b, 9, none⟩ = some (.string L.l.arr) := h.blk.cell 9
    have hfz := h.blk.frozen 9
    have HV : Hid (validS 0 = true) := Lib.hid (by simp [validS])
    clear h
    go_enter Try.func24, Try.ntmps24
    go_wp2_with (go_at_call 49; refine (valid_any 0 w).mono ?_; rintro e w' ⟨he, rfl⟩; rw [HV.out] at he; subst he)
    go_ret2
    exact ⟨rfl, rfl⟩
  · have e : recN m L.l.arr.size = L.l.arr.size := by unfold recN; rw [Int.min_eq_right (by omega)]; rfl
    rw [e]
    subst hm
    clear e
    have hw0 : w.cell? ⟨b, 9, none⟩ = some (.string L.l.arr) := h.blk.cell 9
    have hfz := h.blk.frozen 9
    have HV : Hid (validS 0 = true) := Lib.hid (by simp [validS])
    clear h
    go_enter Try.func24, Try.ntmps24
    go_wp2_with (go_at_call 49; refine (valid_any 0 w).mono ?_; rintro e w' ⟨he, rfl⟩; rw [HV.out] at he; subst he)
    go_ret2
    exact ⟨by first | rfl | (rw [ba_all]; rfl), by rw [ba_none]⟩
  · have e : recN m L.l.arr.size = L.l.arr.size := by unfold recN; rw [Int.min_eq_right (by omega)]; rfl
    rw [e]
    clear e
    have hw0 : w.cell? ⟨b, 9, none⟩ = some (.string L.l.arr) := h.blk.cell 9
    have hfz := h.blk.frozen 9
    have HV : Hid (validS 0 = true) := Lib.hid (by simp [validS])
    clear h
    go_enter Try.func24, Try.ntmps24
    go_wp2_with (go_at_call 49; refine (valid_any 0 w).mono ?_; rintro e w' ⟨he, rfl⟩; rw [HV.out] at he; subst he)
    go_ret2
    exact ⟨by rw [ba_all]; rfl, by rw [ba_none]⟩
set_option maxHeartbeats 1000000 in
theorem receive_any1 (m : Int) (h : LnO w b L gw g0 g1 A A0 A1 c c0 c1) (h0 : 0 ≤ m) : Calls Try.prog 24 #[.pointer (some ⟨b, 0, none⟩), .int .i64 1, .int .i64 m] w fun e w' => e = .returned (.tuple #[.string (L.r.arr.extract 0 (recN m L.r.arr.size)), .int .i64 0]) ∧ w' = w.setCell ⟨b, 12, none⟩ (.string (L.r.arr.extract (recN m L.r.arr.size) L.r.arr.size)) := by
  rcases Int.lt_trichotomy m L.r.arr.size with hm | hm | hm
  · have e : recN m L.r.arr.size = m.toNat := by unfold recN; rw [Int.min_eq_left (by omega)]
    rw [e]
    clear e
    have hw0 : w.cell? ⟨b, 12, none⟩ = some (.string L.r.arr) := h.blk.cell 12
    have hfz := h.blk.frozen 12
    have HV : Hid (validS 1 = true) := Lib.hid (by simp [validS])
    clear h
    go_enter Try.func24, Try.ntmps24
    go_wp2_with (go_at_call 49; refine (valid_any 1 w).mono ?_; rintro e w' ⟨he, rfl⟩; rw [HV.out] at he; subst he)
    go_ret2
    exact ⟨rfl, rfl⟩
  · have e : recN m L.r.arr.size = L.r.arr.size := by unfold recN; rw [Int.min_eq_right (by omega)]; rfl
    rw [e]
    subst hm
    clear e
    have hw0 : w.cell? ⟨b, 12, none⟩ = some (.string L.r.arr) := h.blk.cell 12
    have hfz := h.blk.frozen 12
    have HV : Hid (validS 1 = true) := Lib.hid (by simp [validS])
    clear h
    go_enter Try.func24, Try.ntmps24
    go_wp2_with (go_at_call 49; refine (valid_any 1 w).mono ?_; rintro e w' ⟨he, rfl⟩; rw [HV.out] at he; subst he)
    go_ret2
    exact ⟨by first | rfl | (rw [ba_all]; rfl), by rw [ba_none]⟩
  · have e : recN m L.r.arr.size = L.r.arr.size := by unfold recN; rw [Int.min_eq_right (by omega)]; rfl
    rw [e]
    clear e
    have hw0 : w.cell? ⟨b, 12, none⟩ = some (.string L.r.arr) := h.blk.cell 12
    have hfz := h.blk.frozen 12
    have HV : Hid (validS 1 = true) := Lib.hid (by simp [validS])
    clear h
    go_enter Try.func24, Try.ntmps24
    go_wp2_with (go_at_call 49; refine (valid_any 1 w).mono ?_; rintro e w' ⟨he, rfl⟩; rw [HV.out] at he; subst he)
    go_ret2
    exact ⟨by rw [ba_all]; rfl, by rw [ba_none]⟩

/-! ### Send and Receive as steps of a line -/
def sendL (L : Ln) (s : Int) (t : ByteArray) : Ln × Int :=
  if validS s = false then (L, 2) else if L.up = false then (L, 26) else if 1048576 < (L.ed s).wait.size + t.size then (L, 9)
  else (if s = 0 then { L with l := { L.l with wait := L.l.wait ++ t } } else { L with r := { L.r with wait := L.r.wait ++ t } }, 0)
def recvL (L : Ln) (s m : Int) : Ln × ByteArray × Int :=
  if validS s = false ∨ m < 0 then (L, ⟨#[]⟩, 2)
  else (if s = 0 then { L with l := { L.l with arr := L.l.arr.extract (recN m L.l.arr.size) L.l.arr.size } } else { L with r := { L.r with arr := L.r.arr.extract (recN m L.r.arr.size) L.r.arr.size } },
    (L.ed s).arr.extract 0 (recN m (L.ed s).arr.size), 0)
theorem valid_cases {s : Int} (h : validS s = true) : s = 0 ∨ s = 1 := by unfold validS at h; simpa using h
theorem send_any (s : Int) (t : ByteArray) (h : LnO w b L gw g0 g1 A A0 A1 c c0 c1) (h0 : L.l.wait.size ≤ 1048576) (h1 : L.r.wait.size ≤ 1048576) (ht : t.size ≤ 4611686018427387904) :
    Calls Try.prog 23 #[.pointer (some ⟨b, 0, none⟩), .int .i64 s, .string t] w fun e w' => e = .returned (.int .i64 (sendL L s t).2) ∧ LnO w' b (sendL L s t).1 gw g0 g1 A A0 A1 c c0 c1 ∧ w.grownBy w' (some b) := by
  cases hv : validS s
  · have e : sendL L s t = (L, 2) := by simp [sendL, hv]
    rw [e]
    exact (send_range s t hv).mono fun e w' ⟨he, hw⟩ => by subst hw; exact ⟨he, h, (Below.refl _ _).grownBy _⟩
  cases hu : L.up
  · have e : sendL L s t = (L, 26) := by simp [sendL, hv, hu]
    rw [e]
    exact (send_closed s t h.at hu hv).mono fun e w' ⟨he, hw⟩ => by subst hw; exact ⟨he, h, (Below.refl _ _).grownBy _⟩
  rcases valid_cases hv with rfl | rfl
  · by_cases hl : 1048576 < L.l.wait.size + t.size
    · have e : sendL L 0 t = (L, 9) := by simp [sendL, hv, hu, Ln.ed, hl]
      rw [e]
      exact (send_lim0 t h.at hu hl h0 ht).mono fun e w' ⟨he, hw⟩ => by subst hw; exact ⟨he, h, (Below.refl _ _).grownBy _⟩
    · have e : sendL L 0 t = ({ L with l := { L.l with wait := L.l.wait ++ t } }, 0) := by simp [sendL, hv, hu, Ln.ed, hl]
      rw [e]
      refine (send_ok0 t h.at hu (by omega)).mono fun e w' ⟨he, y, hb, hw⟩ => ?_
      subst hw
      have hg := (hb.grownBy (some b)).trans' (grownBy_setCell y b 7 (.string (L.l.wait ++ t)))
      exact ⟨he, h.own ((h.blk.below hb).set_ 7 _) hg rfl rfl rfl, hg⟩
  · by_cases hl : 1048576 < L.r.wait.size + t.size
    · have e : sendL L 1 t = (L, 9) := by simp [sendL, hv, hu, Ln.ed, hl]
      rw [e]
      exact (send_lim1 t h.at hu hl h1 ht).mono fun e w' ⟨he, hw⟩ => by subst hw; exact ⟨he, h, (Below.refl _ _).grownBy _⟩
    · have e : sendL L 1 t = ({ L with r := { L.r with wait := L.r.wait ++ t } }, 0) := by simp [sendL, hv, hu, Ln.ed, hl]
      rw [e]
      refine (send_ok1 t h.at hu (by omega)).mono fun e w' ⟨he, y, hb, hw⟩ => ?_
      subst hw
      have hg := (hb.grownBy (some b)).trans' (grownBy_setCell y b 10 (.string (L.r.wait ++ t)))
      exact ⟨he, h.own ((h.blk.below hb).set_ 10 _) hg rfl rfl rfl, hg⟩
theorem receive_any (s m : Int) (h : LnO w b L gw g0 g1 A A0 A1 c c0 c1) :
    Calls Try.prog 24 #[.pointer (some ⟨b, 0, none⟩), .int .i64 s, .int .i64 m] w fun e w' => e = .returned (.tuple #[.string (recvL L s m).2.1, .int .i64 (recvL L s m).2.2]) ∧ LnO w' b (recvL L s m).1 gw g0 g1 A A0 A1 c c0 c1 ∧ w.grownBy w' (some b) := by
  by_cases hx : validS s = false ∨ m < 0
  · have e : recvL L s m = (L, ⟨#[]⟩, 2) := by simp [recvL, hx]
    rw [e]
    exact (receive_range s m hx).mono fun e w' ⟨he, hw⟩ => by subst hw; exact ⟨he, h, (Below.refl _ _).grownBy _⟩
  · have hv : validS s = true := by simpa using fun h => hx (.inl h)
    rcases valid_cases hv with rfl | rfl
    · have e : recvL L 0 m = ({ L with l := { L.l with arr := L.l.arr.extract (recN m L.l.arr.size) L.l.arr.size } }, L.l.arr.extract 0 (recN m L.l.arr.size), 0) := by simp only [recvL, hx, if_false, if_true, Ln.ed]
      rw [e]
      refine (receive_any0 m h (by omega)).mono fun e w' ⟨he, hw⟩ => ?_
      subst hw
      have hg := grownBy_setCell w b 9 (.string (L.l.arr.extract (recN m L.l.arr.size) L.l.arr.size))
      exact ⟨he, h.own (h.blk.set_ 9 _) hg rfl rfl rfl, hg⟩
    · have e : recvL L 1 m = ({ L with r := { L.r with arr := L.r.arr.extract (recN m L.r.arr.size) L.r.arr.size } }, L.r.arr.extract 0 (recN m L.r.arr.size), 0) := by simp [recvL, hx, Ln.ed]
      rw [e]
      refine (receive_any1 m h (by omega)).mono fun e w' ⟨he, hw⟩ => ?_
      subst hw
      have hg := grownBy_setCell w b 12 (.string (L.r.arr.extract (recN m L.r.arr.size) L.r.arr.size))
      exact ⟨he, h.own (h.blk.set_ 12 _) hg rfl rfl rfl, hg⟩
end
end Go.Proofs.Ytnddahajfcmkiaa
