/- The line: its state as cells; Now, Up, Session, valid, Waiting. Conditions: none. -/
import Derived.Test.YtnddahajfcmkiaaLd
namespace Go.Proofs.Ytnddahajfcmkiaa
set_option linter.unusedSimpArgs false
set_option linter.unusedVariables false
set_option linter.unnecessarySimpa false
open Go.RowKit

structure Fl where
  at_ : Int
  text : ByteArray
instance : Inhabited Fl := ⟨⟨0, ⟨#[]⟩⟩⟩
def flc (f : Fl) : List Value := [.int .i64 f.at_, .string f.text]
theorem flc_len (f : Fl) : (flc f).length = 2 := rfl
theorem oneCell_flc (f : Fl) : ∀ u ∈ flc f, u.oneCell' = true := by intro u h; simp [flc] at h; rcases h with rfl | rfl <;> rfl
structure Ed where
  wait : ByteArray
  fl : List Fl
  arr : ByteArray
structure Ln where
  cfg : Cfg
  now : Int
  up : Bool
  ses : Int
  l : Ed
  r : Ed
def lnc (L : Ln) (A A0 A1 : Option Addr) (c c0 c1 : Nat) : List Value :=
  [.int .i64 L.cfg.rate, .int .i64 L.cfg.delay, .int .i64 L.cfg.period, .slice A L.cfg.ws.length c, .int .i64 L.now, .bool L.up, .int .i64 L.ses,
   .string L.l.wait, .slice A0 L.l.fl.length c0, .string L.l.arr, .string L.r.wait, .slice A1 L.r.fl.length c1, .string L.r.arr]
/-- a line at block b, its windows and flights in blocks gw, g0, g1 -/
structure LnAt (w : World) (b : Nat) (L : Ln) (gw g0 g1 : Nat) (A A0 A1 : Option Addr) (c c0 c1 : Nat) : Prop where
  blk : Blk w b 87 (lnc L A A0 A1 c c0 c1).toArray
  rw_ : Rd w gw 2 A L.cfg.ws.length (L.cfg.ws.flatMap winc)
  r0 : Rd w g0 2 A0 L.l.fl.length (L.l.fl.flatMap flc)
  r1 : Rd w g1 2 A1 L.r.fl.length (L.r.fl.flatMap flc)
  lw : L.cfg.ws.length ≤ c
  l0 : L.l.fl.length ≤ c0
  l1 : L.r.fl.length ≤ c1
section
variable {w w' : World} {b gw g0 g1 c c0 c1 : Nat} {L : Ln} {A A0 A1 : Option Addr}
theorem LnAt.below (h : LnAt w b L gw g0 g1 A A0 A1 c c0 c1) (hb : Below w.heap.size w w') : LnAt w' b L gw g0 g1 A A0 A1 c c0 c1 :=
  ⟨h.blk.below hb, h.rw_.below hb, h.r0.below hb, h.r1.below hb, h.lw, h.l0, h.l1⟩
theorem LnAt.now (h : LnAt w b L gw g0 g1 A A0 A1 c c0 c1) : w.cell? ⟨b, 4, none⟩ = some (.int .i64 L.now) := h.blk.cell 4
theorem LnAt.up (h : LnAt w b L gw g0 g1 A A0 A1 c c0 c1) : w.cell? ⟨b, 5, none⟩ = some (.bool L.up) := h.blk.cell 5
theorem LnAt.ses (h : LnAt w b L gw g0 g1 A A0 A1 c c0 c1) : w.cell? ⟨b, 6, none⟩ = some (.int .i64 L.ses) := h.blk.cell 6
theorem now_any (h : LnAt w b L gw g0 g1 A A0 A1 c c0 c1) : Calls Try.prog 25 #[.pointer (some ⟨b, 0, none⟩)] w fun e w' => e = .returned (.int .i64 L.now) ∧ w = w' := by
  have hc := h.now
  clear h
  go_enter Try.func25, Try.ntmps25
  go_wp2
  go_ret
  exact ⟨rfl, rfl⟩
theorem up_any (h : LnAt w b L gw g0 g1 A A0 A1 c c0 c1) : Calls Try.prog 26 #[.pointer (some ⟨b, 0, none⟩)] w fun e w' => e = .returned (.bool L.up) ∧ w = w' := by
  have hc := h.up
  clear h
  go_enter Try.func26, Try.ntmps26
  go_wp2
  go_ret
  exact ⟨rfl, rfl⟩
theorem session_any (h : LnAt w b L gw g0 g1 A A0 A1 c c0 c1) : Calls Try.prog 27 #[.pointer (some ⟨b, 0, none⟩)] w fun e w' => e = .returned (.int .i64 L.ses) ∧ w = w' := by
  have hc := h.ses
  clear h
  go_enter Try.func27, Try.ntmps27
  go_wp2
  go_ret
  exact ⟨rfl, rfl⟩
def validS (s : Int) : Bool := decide (s = 0) || decide (s = 1)
theorem valid_any (s : Int) (w : World) : Calls Try.prog 49 #[.int .i64 s] w fun e w' => e = .returned (.bool (validS s)) ∧ w = w' := by
  by_cases h0 : s = 0
  · subst h0
    go_enter Try.func49, Try.ntmps49
    go_wp2
    go_ret
    exact ⟨rfl, rfl⟩
  · by_cases h1 : s = 1
    · subst h1
      go_enter Try.func49, Try.ntmps49
      go_wp2
      go_ret
      exact ⟨rfl, rfl⟩
    · go_enter Try.func49, Try.ntmps49
      go_wp2
      go_ret
      exact ⟨by simp [validS, h0, h1], rfl⟩
end
end Go.Proofs.Ytnddahajfcmkiaa
