/- LineNil's walk. Conditions: none. -/
import Derived.Test.YtnddahajfcmkiaaNc
namespace Go.Proofs.Ytnddahajfcmkiaa
set_option linter.unusedSimpArgs false
set_option linter.unusedVariables false
set_option linter.unnecessarySimpa false
open Go.RowKit
set_option maxRecDepth 20000 in
set_option maxHeartbeats 4000000 in
theorem lineNil_any (s n : Int) (w : World) : Calls Try.prog 4 #[.int .i64 s, .int .i64 n] w fun e w' => e = .returned (.bool true) ∧ Below w.heap.size w w' := by
  have HBw := Lib.hid (Below.refl w.heap.size w)
  go_enter Try.func4, Try.ntmps4
  go_wp2_with fail
  refine (receive_nil s n _).mono ?_
  rintro e w1 ⟨he, hb⟩
  subst he
  have HBw1 := Lib.hid (HBw.out.trans' hb)
  clear hb
  go_wp2_with fail
  refine (known_any _).mono ?_
  rintro e w2 ⟨he, hb⟩
  subst he
  have HBw2 := Lib.hid (HBw1.out.trans' hb)
  clear hb
  go_wp2_with fail
  refine (now_nil _).mono ?_
  rintro e w3 ⟨he, hb⟩
  subst he
  have HBw3 := Lib.hid (HBw2.out.trans' hb)
  clear hb
  go_wp2_with fail
  refine (up_nil _).mono ?_
  rintro e w4 ⟨he, hb⟩
  subst he
  have HBw4 := Lib.hid (HBw3.out.trans' hb)
  clear hb
  go_wp2_with fail
  refine (session_nil _).mono ?_
  rintro e w5 ⟨he, hb⟩
  subst he
  have HBw5 := Lib.hid (HBw4.out.trans' hb)
  clear hb
  go_wp2_with fail
  refine (send_nil s _ _).mono ?_
  rintro e w6 ⟨he, hb⟩
  subst he
  have HBw6 := Lib.hid (HBw5.out.trans' hb)
  clear hb
  go_wp2_with fail
  refine (waiting_nil s _).mono ?_
  rintro e w7 ⟨he, hb⟩
  subst he
  have HBw7 := Lib.hid (HBw6.out.trans' hb)
  clear hb
  go_wp2_with fail
  refine (underway_nil s _).mono ?_
  rintro e w8 ⟨he, hb⟩
  subst he
  have HBw8 := Lib.hid (HBw7.out.trans' hb)
  clear hb
  go_wp2_with fail
  refine (advance_nil n _).mono ?_
  rintro e w9 ⟨he, hb⟩
  subst he
  have HBw9 := Lib.hid (HBw8.out.trans' hb)
  clear hb
  go_wp2_with fail
  refine (drop_nil _).mono ?_
  rintro e w10 ⟨he, hb⟩
  subst he
  have HBw10 := Lib.hid (HBw9.out.trans' hb)
  clear hb
  go_wp2_with fail
  refine (clone_nil _).mono ?_
  rintro e w11 ⟨he, hb⟩
  subst he
  have HBw11 := Lib.hid (HBw10.out.trans' hb)
  clear hb
  go_wp2_with fail
  refine (equal_nil _).mono ?_
  rintro e w12 ⟨he, hb⟩
  subst he
  have HBw12 := Lib.hid (HBw11.out.trans' hb)
  clear hb
  go_wp2_with fail
  go_ret
  exact ⟨rfl, HBw12.out⟩
end Go.Proofs.Ytnddahajfcmkiaa
