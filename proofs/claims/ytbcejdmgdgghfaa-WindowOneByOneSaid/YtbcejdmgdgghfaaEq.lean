/- Go's '==' on an array of integers, as plain equality of lists. Conditions: the array's type has that element and length. -/
import Derived.Test.YtbcejdmgdgghfaaMem
namespace Go.Proofs.Ytbcejdmgdgghfaa
set_option linter.unusedSimpArgs false
set_option linter.unusedVariables false
set_option linter.unnecessarySimpa false
open Go.RowKit
variable {P : Program}
theorem run_part_int (w : World) (e : TypeId) (k : IntKind) (he : P.underlying e = some (.int k)) (xs : List Int) (i : Nat) (h : i < xs.length) : (part e (xs.map (Value.int k)).toArray i).run P w = .ok (.int k xs[i]) w := by
  have hagg : (isAgg e).run P w = .ok false w := by
    unfold isAgg
    rw [Sem.run_bind, run_underlying he w]
    rfl
  simp [part, Sem.run_bind, hagg, h]
theorem run_equalIn_array (w : World) (d n : Nat) (t e : TypeId) (k : IntKind) (xs ys : List Int) (ht : P.underlying t = some (.array n e)) (he : P.underlying e = some (.int k)) (hs : (P.info? e).map (·.size) = some 1)
    (hx : xs.length = n) (hy : ys.length = n) :
    (Op.equalIn (d + 2) t (.agg (xs.map (Value.int k)).toArray) (.agg (ys.map (Value.int k)).toArray)).run P w = .ok (xs == ys) w := by
  rw [Op.equalIn]
  simp only [Sem.run_bind, run_underlying ht, Result.andThen_ok]
  have hse : (sizeOf e).run P w = .ok 1 w := by
    cases hq : P.info? e with
    | none => simp [hq] at hs
    | some i => simp [hq] at hs; simp [sizeOf, typeInfo, hq, hs]
  simp only [hse, Result.andThen_ok, Nat.mul_one]
  rw [Std.Legacy.Range.forIn_eq_forIn_range']
  have key : ∀ m s, s + m = n → Sem.run P (forIn (List.range' s m) ((none : Option Bool), ()) fun i __s => do
            let __do_lift ← part e (List.map (Value.int k) xs).toArray i
            let __do_lift_1 ← part e (List.map (Value.int k) ys).toArray i
            let __do_lift ← Op.equalIn (d + 1) e __do_lift __do_lift_1
            if (!__do_lift) = true then pure (ForInStep.done (some false, ())) else pure (ForInStep.yield (none, ()))) w = .ok (if xs.drop s == ys.drop s then none else some false, ()) w := by
    intro m
    induction m with
    | zero =>
      intro s hsm
      have e1 : xs.drop s = [] := List.drop_eq_nil_of_le (by omega)
      have e2 : ys.drop s = [] := List.drop_eq_nil_of_le (by omega)
      simp [e1, e2]
    | succ m ih =>
      intro s hsm
      rw [List.range'_succ, List.forIn_cons]
      simp only [Sem.run_bind, run_part_int w e k he xs s (by omega), run_part_int w e k he ys s (by omega), Result.andThen_ok, run_equalIn_int w d e k k _ _ he]
      rw [List.drop_eq_getElem_cons (show s < xs.length by omega), List.drop_eq_getElem_cons (show s < ys.length by omega)]
      have hcons : ∀ (a b : Int) (A B : List Int), (a :: A == b :: B) = (a == b && A == B) := fun _ _ _ _ => rfl
      rw [hcons]
      by_cases hab : xs[s] = ys[s]
      · simp only [hab, beq_self_eq_true, Bool.not_true, Bool.false_eq_true, if_false, Sem.run_pure, Result.andThen_ok]
        rw [ih (s + 1) (by omega)]
        simp
      · simp [hab]
  have hr := key n 0 (by omega)
  simp only [List.drop_zero] at hr
  simp only [Std.Legacy.Range.size] 
  simp only [Nat.sub_zero, Nat.add_sub_cancel, Nat.div_one]
  rw [hr]
  by_cases h : xs = ys <;> simp [h]
end Go.Proofs.Ytbcejdmgdgghfaa
