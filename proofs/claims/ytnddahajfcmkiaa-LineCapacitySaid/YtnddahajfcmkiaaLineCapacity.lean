/- LineCapacity: for any description and any interval of up to 500 minutes, Capacity counts the minutes in which the line can be connected. Condition: none. -/
import Derived.Test.YtnddahajfcmkiaaNj
import Derived.Test.YtnddahajfcmkiaaPost
import Derived.Test.YtnddahajfcmkiaaOpn
import Derived.Test.YtnddahajfcmkiaaOpc
namespace Go.Proofs.Ytnddahajfcmkiaa.lineCapacity
set_option linter.unusedSimpArgs false
set_option linter.unusedVariables false
set_option linter.unnecessarySimpa false
open Go.ChangeShapes Go.WideShapes Go.ChangeAt Go.RowKit
set_option linter.unusedVariables false

theorem own : ownKnob Try.prog.godebug = none := by kernel_rfl

set_option maxRecDepth 100000 in
theorem lifted (os : Os) (started : os.Started) (H : Type) (enc : TypeId × Value → H) :
    ReturnsInHanded {} Try.checked os 9 .any (Rows.lineCapacitySpec.pre6 enc Try.prog Try.f9 Rows.lineCapacityRow.domain false) (Rows.lineCapacitySpec.post enc Try.prog Try.f9 false true false false) := by
  refine returnsInHanded_of_change (C := Try.checked) own started (by kernel_rfl) Try.func9
    (ChangeSpec.witness6 (enc := enc) (C := Try.checked) false ⟨#[], #[.agg #[.int .i64 0, .int .i64 0, .int .i64 0, .slice none 0 0], .int .i64 0, .int .i64 0], []⟩ 8 (by kernel_rfl) (by kernel_rfl) (by kernel_rfl) (by kernel_rfl)) ?_
  intro W base args ds gs before hval0 hW hcnd _
  have hval : ∀ (j : Nat) t v, Try.f9.params[j]? = some t → args[j]? = some v → Value.okWide Try.prog W .any base t v := hval0
  have hW' := hW
  obtain ⟨p, q, hA0, hV, rfl, hfz, hnd⟩ := hW
  have hA : DataW.TrodAll enc Try.prog W 0 (fun _ => true) true Try.f9.params.toList args.toList ds p := hA0
  rw [Try.params9] at hA hval
  obtain ⟨v0, vs0, d0, ds0, p0, q0, hargs, rfl, rfl, h0, r0⟩ := trodAll_cons hA
  obtain ⟨v1, vs1, d1, ds1, p1, q1, rfl, rfl, rfl, h1, r1⟩ := trodAll_cons r0
  obtain ⟨v2, vs2, d2, ds2, p2, q2, rfl, rfl, rfl, h2, r2⟩ := trodAll_cons r1
  obtain ⟨rfl, rfl, rfl⟩ := trodAll_nil r2
  obtain rfl : args = #[v0, v1, v2] := by cases args; simp_all
  clear hA0 hval0 hargs
  obtain ⟨c, A0, cap0, g0, rfl, rc, lc, mc⟩ := open_c (hval 0 24 v0 rfl rfl) h0
  obtain ⟨f, rfl, w1⟩ := open_i64 (hval 1 3 v1 rfl rfl) h1
  obtain ⟨n, rfl, w2⟩ := open_i64 (hval 2 3 v2 rfl rfl) h2
  refine (lineCapacity_any c f n g0 cap0 A0 W rc lc mc).mono fun e W' ⟨he, hb⟩ => ?_
  subst he
  exact ⟨_, rfl, law_post hW' rfl rfl (by kernel_rfl) (by kernel_rfl) (by kernel_rfl) Try.underlying4 hb⟩

theorem over : Rows.lineCapacityRow.holds Try.pinned (OpenSpec.ofChange Rows.lineCapacitySpec) :=
  OpenClaim.holds_of_wide 9 Try.f9 rfl rfl rfl rfl rfl rfl rfl ⟨rfl, rfl, rfl, rfl, rfl⟩ rfl rfl rfl rfl rfl (by kernel_rfl) Try.func9 (by kernel_rfl)
    (of_decide_eq_true (by kernel_rfl)) (by unfold Func.isWrapper; first | (rw [if_pos (by decide +kernel)]; kernel_rfl) | (rw [if_neg (by decide +kernel)]; exact ⟨rfl, rfl⟩))
    (fun os started H enc _ => lifted os started H enc)

theorem proved : Rows.LineCapacitySaid :=
  over
#print axioms proved
end Go.Proofs.Ytnddahajfcmkiaa.lineCapacity
