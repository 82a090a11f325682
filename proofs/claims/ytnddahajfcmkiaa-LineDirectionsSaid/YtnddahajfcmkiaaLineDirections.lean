/- LineDirections: for any description and any up to 30 operations, what is received at the right side is the same if nothing is sent at the right side. Condition: none. -/
import Derived.Test.YtnddahajfcmkiaaNl
import Derived.Test.YtnddahajfcmkiaaPost
import Derived.Test.YtnddahajfcmkiaaOpn
import Derived.Test.YtnddahajfcmkiaaOpc
import Derived.Test.YtnddahajfcmkiaaOpo
namespace Go.Proofs.Ytnddahajfcmkiaa.lineDirections
set_option linter.unusedSimpArgs false
set_option linter.unusedVariables false
set_option linter.unnecessarySimpa false
open Go.ChangeShapes Go.WideShapes Go.ChangeAt Go.RowKit
set_option linter.unusedVariables false

theorem own : ownKnob Try.prog.godebug = none := by kernel_rfl

set_option maxRecDepth 100000 in
theorem lifted (os : Os) (started : os.Started) (H : Type) (enc : TypeId × Value → H) :
    ReturnsInHanded {} Try.checked os 12 .any (Rows.lineDirectionsSpec.pre6 enc Try.prog Try.f12 Rows.lineDirectionsRow.domain false) (Rows.lineDirectionsSpec.post enc Try.prog Try.f12 false true false false) := by
  refine returnsInHanded_of_change (C := Try.checked) own started (by kernel_rfl) Try.func12
    (ChangeSpec.witness6 (enc := enc) (C := Try.checked) false ⟨#[], #[.agg #[.int .i64 0, .int .i64 0, .int .i64 0, .slice none 0 0], .slice none 0 0], []⟩ 8 (by kernel_rfl) (by kernel_rfl) (by kernel_rfl) (by kernel_rfl)) ?_
  intro W base args ds gs before hval0 hW hcnd _
  have hval : ∀ (j : Nat) t v, Try.f12.params[j]? = some t → args[j]? = some v → Value.okWide Try.prog W .any base t v := hval0
  have hW' := hW
  obtain ⟨p, q, hA0, hV, rfl, hfz, hnd⟩ := hW
  have hA : DataW.TrodAll enc Try.prog W 0 (fun _ => true) true Try.f12.params.toList args.toList ds p := hA0
  rw [Try.params12] at hA hval
  obtain ⟨v0, vs0, d0, ds0, p0, q0, hargs, rfl, rfl, h0, r0⟩ := trodAll_cons hA
  obtain ⟨v1, vs1, d1, ds1, p1, q1, rfl, rfl, rfl, h1, r1⟩ := trodAll_cons r0
  obtain ⟨rfl, rfl, rfl⟩ := trodAll_nil r1
  obtain rfl : args = #[v0, v1] := by cases args; simp_all
  clear hA0 hval0 hargs
  obtain ⟨c, A0, cap0, g0, rfl, rc, lc, mc⟩ := open_c (hval 0 24 v0 rfl rfl) h0
  obtain ⟨A1, c1, g1, l, rfl, rl, ll, ol⟩ := open_ops (hval 1 25 v1 rfl rfl) h1
  refine (lineDirections_any c l g0 cap0 g1 c1 A0 A1 W rc lc mc rl ll ol).mono fun e W' ⟨he, hb⟩ => ?_
  subst he
  exact ⟨_, rfl, law_post hW' rfl rfl (by kernel_rfl) (by kernel_rfl) (by kernel_rfl) Try.underlying4 hb⟩

theorem over : Rows.lineDirectionsRow.holds Try.pinned (OpenSpec.ofChange Rows.lineDirectionsSpec) :=
  OpenClaim.holds_of_wide 12 Try.f12 rfl rfl rfl rfl rfl rfl rfl ⟨rfl, rfl, rfl, rfl, rfl⟩ rfl rfl rfl rfl rfl (by kernel_rfl) Try.func12 (by kernel_rfl)
    (of_decide_eq_true (by kernel_rfl)) (by unfold Func.isWrapper; first | (rw [if_pos (by decide +kernel)]; kernel_rfl) | (rw [if_neg (by decide +kernel)]; exact ⟨rfl, rfl⟩))
    (fun os started H enc _ => lifted os started H enc)

theorem proved : Rows.LineDirectionsSaid :=
  over
#print axioms proved
end Go.Proofs.Ytnddahajfcmkiaa.lineDirections
