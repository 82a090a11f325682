/- The line: errors of Send, Receive, Drop. Conditions: none. -/
import Derived.Test.YtnddahajfcmkiaaLm
namespace Go.Proofs.Ytnddahajfcmkiaa
set_option linter.unusedSimpArgs false
set_option linter.unusedVariables false
set_option linter.unnecessarySimpa false
open Go.RowKit
section
variable {w : World} {b gw g0 g1 c c0 c1 : Nat} {L : Ln} {A A0 A1 : Option Addr}
theorem drop_closed (h : LnAt w b L gw g0 g1 A A0 A1 c c0 c1) (hu : L.up = false) : Calls Try.prog 31 #[.pointer (some ⟨b, 0, none⟩)] w fun e w' => e = .returned (.int .i64 26) ∧ w = w' := by
  have hc := h.up
  rw [hu] at hc
  clear h hu
  go_enter Try.func31, Try.ntmps31
  go_wp2
  go_ret
  exact ⟨rfl, rfl⟩
theorem send_range (s : Int) (t : ByteArray) (hv : validS s = false) : Calls Try.prog 23 #[.pointer (some ⟨b, 0, none⟩), .int .i64 s, .string t] w fun e w' => e = .returned (.int .i64 2) ∧ w = w' := by
  have HV := Lib.hid hv
  clear hv
  go_enter Try.func23, Try.ntmps23
  go_wp2_with (go_at_call 49; refine (valid_any s w).mono ?_; rintro e w' ⟨he, rfl⟩; rw [HV.out] at he; subst he)
  go_ret
  exact ⟨rfl, rfl⟩
theorem send_closed (s : Int) (t : ByteArray) (h : LnAt w b L gw g0 g1 A A0 A1 c c0 c1) (hu : L.up = false) (hv : validS s = true) : Calls Try.prog 23 #[.pointer (some ⟨b, 0, none⟩), .int .i64 s, .string t] w fun e w' => e = .returned (.int .i64 26) ∧ w = w' := by
  have hc := h.up
  rw [hu] at hc
  have HV := Lib.hid hv
  clear h hu hv
  go_enter Try.func23, Try.ntmps23
  go_wp2_with (go_at_call 49; refine (valid_any s w).mono ?_; rintro e w' ⟨he, rfl⟩; rw [HV.out] at he; subst he)
  go_ret
  exact ⟨rfl, rfl⟩
end
end Go.Proofs.Ytnddahajfcmkiaa
