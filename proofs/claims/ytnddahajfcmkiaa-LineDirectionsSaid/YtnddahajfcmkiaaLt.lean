/- The line: pass's inner function (take). Conditions: none. -/
import Derived.Test.YtnddahajfcmkiaaLs
namespace Go.Proofs.Ytnddahajfcmkiaa
set_option linter.unusedSimpArgs false
set_option linter.unusedVariables false
set_option linter.unnecessarySimpa false
open Go.RowKit
set_option maxHeartbeats 1000000 in
theorem take_some (n : Int) (s : ByteArray) (v b o : Nat) (w : World) (hv : Blk w v 98 #[.pointer (some ⟨b, o, none⟩)]) (hc : w.cell? ⟨b, o, none⟩ = some (.string s)) (hf : w.frozen? ⟨b, o, none⟩ = false) (h0 : 0 ≤ n) (h1 : n < s.size) :
    Calls Try.prog 59 #[.int .i64 n, .pointer (some ⟨v, 0, none⟩)] w fun e w' => e = .returned (.string (s.extract 0 n.toNat)) ∧ w' = (w.setCell ⟨b, o, none⟩ (.string (s.extract n.toNat s.size))).drew := by
  have hcv := hv.cell 0
  have HV := Lib.hid hv
  clear hv
  go_enter Try.func59, Try.ntmps59
  go_wp2
  go_region
  go_wp2
  go_ret
  exact ⟨rfl, rfl⟩
set_option maxHeartbeats 1000000 in
theorem take_all (s : ByteArray) (v b o : Nat) (w : World) (hv : Blk w v 98 #[.pointer (some ⟨b, o, none⟩)]) (hc : w.cell? ⟨b, o, none⟩ = some (.string s)) (hf : w.frozen? ⟨b, o, none⟩ = false) :
    Calls Try.prog 59 #[.int .i64 s.size, .pointer (some ⟨v, 0, none⟩)] w fun e w' => e = .returned (.string s) ∧ w' = (w.setCell ⟨b, o, none⟩ (.string ⟨#[]⟩)).drew := by
  have hcv := hv.cell 0
  have HV := Lib.hid hv
  clear hv
  go_enter Try.func59, Try.ntmps59
  go_wp2
  go_region
  go_wp2
  go_ret
  exact ⟨rfl, rfl⟩
theorem take_any (k : Nat) (s : ByteArray) (v b o : Nat) (w : World) (hv : Blk w v 98 #[.pointer (some ⟨b, o, none⟩)]) (hc : w.cell? ⟨b, o, none⟩ = some (.string s)) (hf : w.frozen? ⟨b, o, none⟩ = false) (h1 : k ≤ s.size) :
    Calls Try.prog 59 #[.int .i64 k, .pointer (some ⟨v, 0, none⟩)] w fun e w' => e = .returned (.string (s.extract 0 k)) ∧ w' = (w.setCell ⟨b, o, none⟩ (.string (s.extract k s.size))).drew := by
  rcases Nat.lt_or_ge k s.size with h | h
  · have := take_some k s v b o w hv hc hf (by omega) (by omega)
    simpa using this
  · obtain rfl : k = s.size := by omega
    have := take_all s v b o w hv hc hf
    rw [ba_all, ba_none]
    exact this
end Go.Proofs.Ytnddahajfcmkiaa
