/- A region that draws its order, with several operations each of which meets what it needs of the world as it was until it comes up itself. Conditions: as in Seq. -/
import Derived.Test.YtnddahajfcmkiaaLt
namespace Go.Proofs.Ytnddahajfcmkiaa
set_option linter.unusedSimpArgs false
set_option linter.unusedVariables false
set_option linter.unnecessarySimpa false
open Go.RowKit
/-- the chain with a told thing for each operation -/
structure St (P : Program) (ops : Array Oper) (R : World → World → Prop) (w0 : World) (ps : List (Nat × (Value → World → Prop))) (tok : Nat → World → Prop) (Q : Exit → Act → World → Prop) (H T l : List Nat) (a : Act) : Prop where
  out : Seq P ops R (Ext.none R) w0 (postOf ps) tok (EndT P ops R (Ext.none R) w0 (postOf ps) Q H T) l a
section
variable {P : Program} {ops : Array Oper} {R : World → World → Prop} {w0 : World} {Q : Exit → Act → World → Prop} {H T : List Nat} {ps : List (Nat × (Value → World → Prop))} {tok : Nat → World → Prop} {rest : List Nat} {a b : Act} {i : Nat} {d : Tmp} {op : Op} {ty : TypeId} {pos : String} {af : Array Edge} {gd : Option (Nat × Bool)}
theorem St.det (ho : ops[i]? = some ⟨some d, op, ty, pos, af, gd⟩) (hp : postOf ps i = none) (hw : isWanted ops ⟨some d, op, ty, pos, af, gd⟩ a = true) {E : Value}
    (h : ∀ w, R w0 w → Facts ops (Ext.none R) (postOf ps) i a w → (execOp a.eval ⟨some d, op, ty, pos, af, gd⟩).run P w = .ok (.value E) w) (hb : a.put (some d) E = b)
    (k : St P ops R w0 ps tok Q H T rest b) : St P ops R w0 ps tok Q H T (i :: rest) a := ⟨Seq.det' ho hp hw h hb k.out⟩
theorem St.any (ho : ops[i]? = some ⟨some d, op, ty, pos, af, gd⟩) {p : Value → World → Prop} (hp : postOf ps i = some p) (hw : isWanted ops ⟨some d, op, ty, pos, af, gd⟩ a = true)
    (h : ∀ w, R w0 w → Facts ops (Ext.none R) (postOf ps) i a w → tok i w → (⟨some d, op, ty, pos, af, gd⟩ : Oper).wp P a w (fun a' w' => a'.defers = a.defers ∧ R w w' ∧ (∀ j, j ≠ i → tok j w → tok j w') ∧ p (a'.tmps.getD d undef) w') NoQ) {f : Value → Act} (hb : ∀ v, a.put (some d) v = f v)
    (k : ∀ v, St P ops R w0 ps tok Q H T rest (f v)) : St P ops R w0 ps tok Q H T (i :: rest) a :=
  ⟨Seq.any' ho hp hw (fun w hw hf ht => Oper.wp_mono (fun a' w' hh => by
    have : slotOf ops a' i = a'.tmps.getD d undef := by simp [slotOf, got, dstOf, ho]
    rw [this]; exact ⟨hh.1, ⟨⟨fun h => (by cases h), fun _ => hh.2.1⟩, hh.2.2.1, fun h => (by cases h)⟩, hh.2.2.2⟩) (h w hw hf ht)) hb fun v => (k v).out⟩
theorem St.none_ (ho : ops[i]? = some ⟨none, op, ty, pos, af, gd⟩) {p : World → Prop} (hp : postOf ps i = some fun _ w => p w) (hw : isWanted ops ⟨none, op, ty, pos, af, gd⟩ a = true)
    (h : ∀ w, R w0 w → Facts ops (Ext.none R) (postOf ps) i a w → tok i w → (⟨none, op, ty, pos, af, gd⟩ : Oper).wp P a w (fun a' w' => a'.defers = a.defers ∧ R w w' ∧ (∀ j, j ≠ i → tok j w → tok j w') ∧ p w') NoQ)
    (k : St P ops R w0 ps tok Q H T rest a) : St P ops R w0 ps tok Q H T (i :: rest) a :=
  ⟨Seq.any' (b := fun _ => a) ho hp hw (fun w hw hf ht => Oper.wp_mono (fun a' w' hh => by
    exact ⟨hh.1, ⟨⟨fun h => (by cases h), fun _ => hh.2.1⟩, hh.2.2.1, fun h => (by cases h)⟩, hh.2.2.2⟩) (h w hw hf ht)) (fun _ => rfl) fun _ => k.out⟩
theorem St.tail (l : List Oper) (hl : T.mapM (fun t => ops[t]?) = some l) (h : ∀ w, R w0 w → (∀ i ∈ H, ∀ p, postOf ps i = some p → p (slotOf ops a i) w) → wpList P ops Q l a w) : St P ops R w0 ps tok Q H T [] a := ⟨by
  intro w hw hp _ l' hl'
  rw [hl] at hl'
  injection hl' with hl'
  subst hl'
  exact h w hw fun i hi p hq => hp i hi p (by simp [postEnd, Ext.none, hq])⟩
theorem St.done (h : ∀ w, R w0 w → (∀ i ∈ H, ∀ p, postOf ps i = some p → p (slotOf ops a i) w) → Q .normal a w) : St P ops R w0 ps tok Q H [] [] a := ⟨by
  intro w hw hp _ l hl
  have : l = [] := by simpa using hl.symm
  subst this
  exact h w hw fun i hi p hq => hp i hi p (by simp [postEnd, Ext.none, hq])⟩
variable {nt : Nat} {a0 : Act}
theorem wpAny_tok {listed0 : Array Bool} (L0 H T : List Nat) (R : World → World → Prop) (hrefl : ∀ w, R w w) (htrans : ∀ x y z, R x y → R y z → R x z) (ps : List (Nat × (Value → World → Prop))) {fuel : Nat}
    (hplan : planOk ops L0 listed0 H T nt = true) (hnt : nt ≤ a0.tmps.size) (hL0 : L0.all (fun j => decide (j < ops.size) && !H.contains j) = true) (hnd : decide H.Nodup = true) (hps : ((ps.map (·.1)).all (fun i => H.contains i) && H.all (fun i => (ps.map (·.1)).contains i || (dstOf ops i).isSome)) = true) (hfuel : H.length + T.length ≤ fuel)
    (hstab : AllStab R w0 ps) (htk : ∀ i, tok i w0) (hS : St P ops R w0 ps tok Q H T H a0) : wpAny P .any ops Q fuel listed0 a0 w0 := by
  unfold planOk at hplan
  simp only [Bool.and_eq_true, beq_iff_eq] at hplan
  obtain ⟨⟨⟨⟨⟨⟨⟨⟨⟨p1, p2⟩, p3⟩, p4⟩, p5⟩, p6⟩, p7⟩, p8⟩, p9⟩, p10⟩ := hplan
  have hokH' : ∀ i ∈ H, ∃ o d, OkH ops L0 H T nt i o d ∧ ∀ t T', T = t :: T' → leads ops H t ops.size i = true := fun i hi => okH_spec ((List.all_eq_true.1 p3) i hi)
  have hL0' : ∀ j ∈ L0, j < ops.size ∧ j ∉ H := fun j hj => by
    have := (List.all_eq_true.1 hL0) j hj
    simp only [Bool.and_eq_true, decide_eq_true_eq, Bool.not_eq_true'] at this
    exact ⟨this.1, by simpa using this.2⟩
  have hget : ∀ i, i < ops.size → listed0.getD i true = L0.contains i := fun i hi => by rw [p1]; simp [hi]
  obtain ⟨l, hl⟩ := Option.isSome_iff_exists.1 p10
  rw [Bool.and_eq_true] at hps
  obtain ⟨hps, hps2⟩ := hps
  have hnn : ∀ i ∈ H, postOf ps i = none → (Ext.none R).at i = false ∧ ∃ x, dstOf ops i = some x := fun i hi hn => by
    refine ⟨rfl, ?_⟩
    have := (List.all_eq_true.1 hps2) i hi
    rw [Bool.or_eq_true] at this
    rcases this with h | h
    · exfalso
      have hm : i ∈ ps.map (·.1) := by simpa using h
      exact postOf_none ps i hn hm
    · exact Option.isSome_iff_exists.1 h
  refine seq_sound (X := Ext.none R) hrefl hrefl (fun _ _ h => h) (fun _ _ _ _ _ _ => trivial) (fun _ _ h => by cases h) htrans p4 (fun i hi => let ⟨o, d, h, _⟩ := hokH' i hi; ⟨o, d, h⟩) (fun i hi => let ⟨o, d, _, h⟩ := hokH' i hi; h) (fun j hj => (hL0' j hj).2) (fun j hj => (hL0' j hj).1)
    (fun t ht => by
      have := (List.all_eq_true.1 p6) t ht
      simp only [Bool.and_eq_true, Bool.not_eq_true'] at this
      exact ⟨this.1, by simpa using this.2⟩) p5
    (fun i hi => by
      have := (List.all_eq_true.1 p2) i (List.mem_range.2 hi)
      simp only [Bool.or_eq_true] at this
      rcases this with (h | h) | h
      · exact .inl (by simpa using h)
      · exact .inr (.inl (by simpa using h))
      · exact .inr (.inr (by simpa using h))) p7 hl (of_decide_eq_true hnd)
    (fun i hi hpn => hnn i hi hpn)
    (fun i p hp => by
      have := (List.all_eq_true.1 hps) i (postOf_mem ps i p hp)
      simpa using this) (postOf_stabX ps (stabX_of R w0 ps hstab)) hnt hS.out fuel listed0 a0 w0 ?_ ?_
  · refine ⟨by rw [p1]; simp, fun i hi h => by rw [hget i hi]; exact h, fun i hi h => .inl (by rw [← hget i hi]; exact h), fun i hi h => ?_, hrefl _, fun i _ _ => htk i, rfl, rfl, fun _ _ => rfl, fun i hi h => ?_, fun i hi hat h => ?_⟩
    all_goals
      exfalso
      obtain ⟨o, d, hk, _⟩ := hokH' i hi
      rw [hget i (Array.getElem?_eq_some_iff.1 hk.op).1, hk.notL] at h
      cases h
  · exact Nat.le_trans (Nat.add_le_add_right (List.length_filter_le _ _) _) hfuel
theorem wp_region_tok {id : Nat} (hm : P.follows .mixedOrders = true) (H T : List Nat) (R : World → World → Prop) (hrefl : ∀ w, R w w) (htrans : ∀ x y z, R x y → R y z → R x z) (ps : List (Nat × (Value → World → Prop)))
    (hplan : planOk ops [] (Array.replicate ops.size false) H T nt = true) (hnt : nt ≤ a0.tmps.size) (hnd : decide H.Nodup = true) (hps : ((ps.map (·.1)).all (fun i => H.contains i) && H.all (fun i => (ps.map (·.1)).contains i || (dstOf ops i).isSome)) = true) (hfuel : H.length + T.length ≤ ops.size)
    (hstab : AllStab R w0.drew ps) (tok : Nat → World → Prop) (htk : ∀ i, tok i w0.drew) (hS : St P ops R w0.drew ps tok Q H T H a0) : (Code.region id ops true).wp P Q a0 w0 :=
  wp_region_any hm (wpAny_tok (w0 := w0.drew) [] H T R hrefl htrans ps hplan hnt rfl hnd hps hfuel hstab htk hS)
end
end Go.Proofs.Ytnddahajfcmkiaa
