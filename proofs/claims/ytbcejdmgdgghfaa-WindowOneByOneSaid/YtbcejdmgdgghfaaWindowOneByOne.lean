/- WindowOneByOne: if all offers are answered, the results are those of offers made one by one, for every size, every order of the answers and whenever they are collected. Condition: none beyond the statement's own (at most 60 offers and 400 picks; else the document's example alone is looked at). -/
import Derived.Test.YtbcejdmgdgghfaaPf
import Derived.Test.YtbcejdmgdgghfaaPost
namespace Go.Proofs.Ytbcejdmgdgghfaa.windowOneByOne
set_option linter.unusedSimpArgs false
set_option linter.unusedVariables false
set_option linter.unnecessarySimpa false
open Go.ChangeShapes Go.WideShapes Go.ChangeAt Go.RowKit
set_option linter.unusedVariables false

theorem own : ownKnob Try.prog.godebug = none := by kernel_rfl

set_option maxRecDepth 100000 in
theorem lifted (os : Os) (started : os.Started) (H : Type) (enc : TypeId × Value → H) :
    ReturnsInHanded {} Try.checked os 3 .any (Rows.windowOneByOneSpec.pre6 enc Try.prog Try.f3 Rows.windowOneByOneRow.domain false) (Rows.windowOneByOneSpec.post enc Try.prog Try.f3 false true false false) := by
  refine returnsInHanded_of_change (C := Try.checked) own started (by kernel_rfl) Try.func3
    (ChangeSpec.witness6 (enc := enc) (C := Try.checked) false ⟨#[], #[.int .i64 0, .slice none 0 0, .slice none 0 0], []⟩ 8 (by kernel_rfl) (by kernel_rfl) (by kernel_rfl) (by kernel_rfl)) ?_
  intro W base args ds gs before hval0 hW hcnd _
  have hval : ∀ (j : Nat) t v, Try.f3.params[j]? = some t → args[j]? = some v → Value.okWide Try.prog W .any base t v := hval0
  have hW' := hW
  obtain ⟨p, q, hA0, hV, rfl, hfz, hnd⟩ := hW
  have hA : DataW.TrodAll enc Try.prog W 0 (fun _ => true) true Try.f3.params.toList args.toList ds p := hA0
  rw [Try.params3] at hA hval
  obtain ⟨v0, vs0, d0, ds0, p0, q0, hargs, rfl, rfl, h0, r0⟩ := trodAll_cons hA
  obtain ⟨v1, vs1, d1, ds1, p1, q1, rfl, rfl, rfl, h1, r1⟩ := trodAll_cons r0
  obtain ⟨v2, vs2, d2, ds2, p2, q2, rfl, rfl, rfl, h2, r2⟩ := trodAll_cons r1
  obtain ⟨rfl, rfl, rfl⟩ := trodAll_nil r2
  obtain rfl : args = #[v0, v1, v2] := by cases args; simp_all
  clear hA0 hval0 hargs
  obtain ⟨n, rfl, w0⟩ := open_i64 (hval 0 3 v0 rfl rfl) h0
  obtain ⟨A1, c1, g1, l, rfl, rl, ll⟩ := open_offers (hval 1 22 v1 rfl rfl) h1
  obtain ⟨A2, c2, g2, k, rfl, rk, lk⟩ := open_picks (hval 2 23 v2 rfl rfl) h2
  refine (one_any n l k g1 g2 c1 c2 A1 A2 W rl rk ll lk).mono fun e W' ⟨he, hb⟩ => ?_
  subst he
  exact ⟨_, rfl, law_post hW' rfl rfl (by kernel_rfl) (by kernel_rfl) (by kernel_rfl) Try.underlying4 hb⟩

theorem over : Rows.windowOneByOneRow.holds Try.pinned (OpenSpec.ofChange Rows.windowOneByOneSpec) :=
  OpenClaim.holds_of_wide 3 Try.f3 rfl rfl rfl rfl rfl rfl rfl ⟨rfl, rfl, rfl, rfl, rfl⟩ rfl rfl rfl rfl rfl (by kernel_rfl) Try.func3 (by kernel_rfl)
    (of_decide_eq_true (by kernel_rfl)) (by unfold Func.isWrapper; first | (rw [if_pos (by decide +kernel)]; kernel_rfl) | (rw [if_neg (by decide +kernel)]; exact ⟨rfl, rfl⟩))
    (fun os started H enc _ => lifted os started H enc)

theorem proved : Rows.WindowOneByOneSaid :=
  over
#print axioms proved
end Go.Proofs.Ytbcejdmgdgghfaa.windowOneByOne
