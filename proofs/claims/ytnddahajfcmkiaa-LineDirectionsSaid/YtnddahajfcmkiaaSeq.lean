/- A region that draws its order, walked once in the order of its text: operations whose effects are stable under a relation R may come in whatever order; a forced tail follows. Conditions: a closed check on the region (planOk). -/
import Derived.Test.YtnddahajfcmkiaaMem
namespace Go.Proofs.Ytnddahajfcmkiaa
set_option linter.unusedSimpArgs false
set_option linter.unusedVariables false
set_option linter.unnecessarySimpa false
open Go.RowKit

def predsOf (ops : Array Oper) (i : Nat) : List Nat :=
  match ops[i]? with
  | some o => (o.after.toList.filter (Region.binds .any ·)).map (·.on)
  | none => []
def dstOf (ops : Array Oper) (i : Nat) : Option Nat := (ops[i]?).bind (·.dst)
def looks (ops : Array Oper) (i : Nat) : List Tmp := match ops[i]? with | some o => o.looksAt ops | none => []
def plainOp : Op → Bool | .select .. => false | .defer _ => false | _ => true

/-- h must have come up before t can -/
def leads (ops : Array Oper) (H : List Nat) (t : Nat) : Nat → Nat → Bool
  | 0, h => (predsOf ops t).contains h
  | k + 1, h => (predsOf ops t).contains h || H.any fun j => (predsOf ops j).contains h && leads ops H t k j
def inOrder (ops : Array Oper) : List Nat → List Nat → Bool
  | _, [] => true
  | pre, i :: rest => ((predsOf ops i).all fun j => pre.contains j) && inOrder ops (i :: pre) rest
def tailOk (ops : Array Oper) : Array Bool → List Nat → Bool
  | l, [] => Region.ready .any ops l == []
  | l, t :: T => Region.ready .any ops l == [t] && tailOk ops (l.setIfInBounds t true) T
def chainOk (ops : Array Oper) : List Nat → Bool
  | t :: u :: T => (predsOf ops u).contains t && chainOk ops (u :: T)
  | _ => true
def okH (ops : Array Oper) (L0 : List Nat) (H : List Nat) (T : List Nat) (nt : Nat) (i : Nat) : Bool :=
  (match ops[i]? with | some o => plainOp o.op && (match o.dst with | some d => decide (d < nt) | none => true) | none => false) &&
  !L0.contains i && !T.contains i &&
  H.all (fun j => (j == i || dstOf ops i == none || dstOf ops j != dstOf ops i) && (match dstOf ops j with | some d => !(looks ops i).contains d || (predsOf ops i).contains j | none => true)) &&
  (match T with | [] => true | t :: _ => leads ops H t ops.size i)
def planOk (ops : Array Oper) (L0 : List Nat) (listed0 : Array Bool) (H T : List Nat) (nt : Nat) : Bool :=
  listed0 == ((List.range ops.size).map fun i => L0.contains i).toArray &&
  (List.range ops.size).all (fun i => L0.contains i || H.contains i || T.contains i) &&
  H.all (okH ops L0 H T nt) && inOrder ops L0 H && chainOk ops T && T.all (fun t => !L0.contains t && !H.contains t) &&
  tailOk ops ((List.range ops.size).map fun i => !T.contains i).toArray T && H.all (fun i => decide (i < ops.size)) && T.all (fun i => decide (i < ops.size)) && (T.mapM (fun t => ops[t]?)).isSome

def NoQ : Exit → Act → World → Prop := fun _ _ _ => False

/-- one operation (c) may write more widely (R) than the others (S); what 'tmp' names holds until c has come up -/
structure Ext where
  S : World → World → Prop
  c : Option Nat
  tmp : Nat → Bool
  /-- what holds behind c, of the values that it waits for -/
  pc : (Nat → Value) → World → Prop
def Ext.none (R : World → World → Prop) : Ext := ⟨R, Option.none, fun _ => false, fun _ _ => True⟩
def Ext.at (X : Ext) (i : Nat) : Bool := X.c == some i
def Ext.step (X : Ext) (R : World → World → Prop) (i : Nat) (w w' : World) : Prop := (X.at i = true → R w w') ∧ (X.at i = false → X.S w w')
def postFor (X : Ext) (post : Nat → Option (Value → World → Prop)) (i j : Nat) : Option (Value → World → Prop) := bif (X.tmp j && !X.at i) || X.at j then Option.none else post j
def postEnd (X : Ext) (post : Nat → Option (Value → World → Prop)) (j : Nat) : Option (Value → World → Prop) := bif X.tmp j then Option.none else post j
theorem postFor_some {X : Ext} {post : Nat → Option (Value → World → Prop)} {i j : Nat} {p : Value → World → Prop} (h : postFor X post i j = some p) : post j = some p ∧ (X.tmp j = true → X.at i = true) ∧ X.at j = false := by
  unfold postFor at h
  cases ht : X.tmp j <;> cases hc : X.at i <;> cases hj : X.at j <;> simp [ht, hc, hj] at h ⊢ <;> exact h
theorem postEnd_some {X : Ext} {post : Nat → Option (Value → World → Prop)} {j : Nat} {p : Value → World → Prop} (h : postEnd X post j = some p) : post j = some p ∧ X.tmp j = false := by
  unfold postEnd at h
  cases ht : X.tmp j <;> simp [ht] at h ⊢
  exact h

/-- what lies in the slot that an operation writes -/
def got (d : Option Tmp) (a : Act) : Value := match d with | some d => a.tmps.getD d undef | none => undef
def gv (d : Option Tmp) (v : Value) : Value := match d with | some _ => v | none => undef
def slotOf (ops : Array Oper) (a : Act) (i : Nat) : Value := got (dstOf ops i) a
def pv (ops : Array Oper) (a : Act) (i j : Nat) : Value := if (predsOf ops i).contains j then slotOf ops a j else undef
theorem pv_eq {ops : Array Oper} {a b : Act} {i : Nat} (h : ∀ j ∈ predsOf ops i, slotOf ops a j = slotOf ops b j) : pv ops a i = pv ops b i := by
  funext j
  unfold pv
  split
  · rename_i hj; exact h j (by simpa using hj)
  · rfl

section
variable (P : Program) (ops : Array Oper) (R : World → World → Prop) (X : Ext) (w0 : World) (post : Nat → Option (Value → World → Prop)) (tok : Nat → World → Prop)

/-- what is known of an operation's direct predecessors -/
def Facts (i : Nat) (a : Act) (w : World) : Prop := ∀ j ∈ predsOf ops i, ∀ p, postFor X post i j = some p → p (slotOf ops a j) w
def isWanted (ops : Array Oper) (o : Oper) (a : Act) : Bool := Region.wanted o (yielded ops a.tmps)

/-- the walk in the order of the text -/
def Seq (End : Act → Prop) : List Nat → Act → Prop
  | [], a => End a
  | i :: rest, a => ∀ o, ops[i]? = some o →
    match post i with
    | some p => isWanted ops o a = true ∧ (∀ w, R w0 w → Facts ops X post i a w → tok i w → o.wp P a w (fun a' w' => a'.defers = a.defers ∧ (X.step R i w w' ∧ (∀ j, j ≠ i → tok j w → tok j w') ∧ (X.at i = true → X.pc (pv ops a i) w')) ∧ p (slotOf ops a' i) w') NoQ) ∧ ∀ v, Seq End rest (a.put o.dst v)
    | none => ∃ E, (isWanted ops o a = true → ∀ w, R w0 w → Facts ops X post i a w → (execOp a.eval o).run P w = .ok (.value E) w) ∧ (isWanted ops o a = false → E = undef) ∧ Seq End rest (a.put o.dst E)
end

section
variable {P : Program} {ops : Array Oper} {R : World → World → Prop} {X : Ext} {w0 : World} {post : Nat → Option (Value → World → Prop)} {tok : Nat → World → Prop} {End : Act → Prop} {rest : List Nat} {a : Act} {i : Nat} {o : Oper}
theorem Seq.det (ho : ops[i]? = some o) (hp : post i = none) (hw : isWanted ops o a = true) {E : Value} (h : ∀ w, R w0 w → Facts ops X post i a w → (execOp a.eval o).run P w = .ok (.value E) w)
    (k : Seq P ops R X w0 post tok End rest (a.put o.dst E)) : Seq P ops R X w0 post tok End (i :: rest) a := by
  intro o' ho'
  obtain rfl : o = o' := by rw [ho] at ho'; injection ho'
  simp only [hp]
  exact ⟨E, fun _ => h, fun h0 => (by rw [hw] at h0; cases h0), k⟩
theorem Seq.skip (ho : ops[i]? = some o) (hp : post i = none) (hw : isWanted ops o a = false) (k : Seq P ops R X w0 post tok End rest (a.put o.dst undef)) : Seq P ops R X w0 post tok End (i :: rest) a := by
  intro o' ho'
  obtain rfl : o = o' := by rw [ho] at ho'; injection ho'
  simp only [hp]
  exact ⟨undef, fun h0 => (by rw [hw] at h0; cases h0), fun _ => rfl, k⟩
theorem Seq.any (ho : ops[i]? = some o) {p : Value → World → Prop} (hp : post i = some p) (hw : isWanted ops o a = true)
    (h : ∀ w, R w0 w → Facts ops X post i a w → tok i w → o.wp P a w (fun a' w' => a'.defers = a.defers ∧ (X.step R i w w' ∧ (∀ j, j ≠ i → tok j w → tok j w') ∧ (X.at i = true → X.pc (pv ops a i) w')) ∧ p (slotOf ops a' i) w') NoQ)
    (k : ∀ v, Seq P ops R X w0 post tok End rest (a.put o.dst v)) : Seq P ops R X w0 post tok End (i :: rest) a := by
  intro o' ho'
  obtain rfl : o = o' := by rw [ho] at ho'; injection ho'
  simp only [hp]
  exact ⟨hw, h, k⟩
theorem Seq.det' (ho : ops[i]? = some o) (hp : post i = none) (hw : isWanted ops o a = true) {E : Value} {b : Act} (h : ∀ w, R w0 w → Facts ops X post i a w → (execOp a.eval o).run P w = .ok (.value E) w) (hb : a.put o.dst E = b)
    (k : Seq P ops R X w0 post tok End rest b) : Seq P ops R X w0 post tok End (i :: rest) a := Seq.det ho hp hw h (hb ▸ k)
theorem Seq.skip' (ho : ops[i]? = some o) (hp : post i = none) (hw : isWanted ops o a = false) {b : Act} (hb : a.put o.dst undef = b) (k : Seq P ops R X w0 post tok End rest b) : Seq P ops R X w0 post tok End (i :: rest) a := Seq.skip ho hp hw (hb ▸ k)
theorem Seq.any' (ho : ops[i]? = some o) {p : Value → World → Prop} (hp : post i = some p) (hw : isWanted ops o a = true)
    (h : ∀ w, R w0 w → Facts ops X post i a w → tok i w → o.wp P a w (fun a' w' => a'.defers = a.defers ∧ (X.step R i w w' ∧ (∀ j, j ≠ i → tok j w → tok j w') ∧ (X.at i = true → X.pc (pv ops a i) w')) ∧ p (slotOf ops a' i) w') NoQ) {b : Value → Act} (hb : ∀ v, a.put o.dst v = b v)
    (k : ∀ v, Seq P ops R X w0 post tok End rest (b v)) : Seq P ops R X w0 post tok End (i :: rest) a := Seq.any ho hp hw h (fun v => hb v ▸ k v)
end

/-! ### soundness -/
section
variable {P : Program} {ops : Array Oper} {R : World → World → Prop} {X : Ext} {w0 : World} {post : Nat → Option (Value → World → Prop)} {tok : Nat → World → Prop} {Q : Exit → Act → World → Prop}

theorem put_getD {a : Act} {d t : Nat} {v : Value} : (a.put (some d) v).tmps.getD t undef = if d = t ∧ d < a.tmps.size then v else a.tmps.getD t undef := by
  simp only [Act.put, Array.getD_eq_getD_getElem?, Array.getElem?_setIfInBounds]
  by_cases h : d = t
  · subst h
    by_cases hs : d < a.tmps.size
    · simp [hs]
    · simp [hs]
  · simp [h]
theorem put_getD' {a : Act} {d : Option Tmp} {t : Nat} {v : Value} : (a.put d v).tmps.getD t undef = if d = some t ∧ t < a.tmps.size then v else a.tmps.getD t undef := by
  cases d with
  | none => simp [Act.put]
  | some d =>
    rw [put_getD]
    by_cases h : d = t
    · subst h; simp
    · simp [h]
theorem got_put {a : Act} {d : Option Tmp} {v : Value} (h : ∀ x, d = some x → x < a.tmps.size) : got d (a.put d v) = gv d v := by
  cases d with
  | none => rfl
  | some d => simp only [got, gv]; rw [put_getD, if_pos ⟨rfl, h d rfl⟩]
theorem got_other {a : Act} {d e : Option Tmp} {v : Value} (h : ∀ x, d = some x → e ≠ some x) : got e (a.put d v) = got e a := by
  cases e with
  | none => rfl
  | some e => simp only [got]; rw [put_getD', if_neg]; rintro ⟨h1, _⟩; exact h e h1 rfl
theorem put_size {a : Act} {dst : Option Tmp} {v : Value} : (a.put dst v).tmps.size = a.tmps.size := by cases dst <;> simp [Act.put]

/-- an operation looks only at what it looks at -/
theorem exec_agree {o : Oper} (hpl : plainOp o.op = true) {a b : Act} (h : ∀ t ∈ o.looksAt ops, a.tmps.getD t undef = b.tmps.getD t undef) : execOp a.eval o = execOp b.eval o :=
  execOp_congr o (fun cs b he => by rw [he] at hpl; cases hpl) fun x hx => by
    cases x with
    | tmp t => exact h t (List.mem_append_left _ (List.mem_filterMap.2 ⟨.tmp t, by simpa using hx, rfl⟩))
    | _ => rfl
theorem wanted_agree {o : Oper} {a b : Act} (hs : a.tmps.size = b.tmps.size) (h : ∀ t ∈ o.looksAt ops, a.tmps.getD t undef = b.tmps.getD t undef) : isWanted ops o a = isWanted ops o b := by
  unfold isWanted Region.wanted
  cases hg : o.guard with
  | none => rfl
  | some gw =>
    obtain ⟨g, want⟩ := gw
    have : yielded ops a.tmps g = yielded ops b.tmps g := by
      unfold yielded
      cases ht : (ops[g]?).bind (·.dst) with
      | none => rfl
      | some t =>
        have e := h t (by simp [Oper.looksAt, hg, ht])
        simp only [Array.getD_eq_getD_getElem?] at e
        show (match a.tmps[t]? with | some (.bool b) => some b | _ => none) = (match b.tmps[t]? with | some (.bool b) => some b | _ => none)
        by_cases hlt : t < a.tmps.size
        · have hlt' : t < b.tmps.size := hs ▸ hlt
          rw [Array.getElem?_eq_getElem hlt, Array.getElem?_eq_getElem hlt'] at e ⊢
          simp only [Option.getD_some] at e
          rw [e]
        · have hlt' : ¬ t < b.tmps.size := hs ▸ hlt
          rw [Array.getElem?_eq_none (Nat.le_of_not_lt hlt), Array.getElem?_eq_none (Nat.le_of_not_lt hlt')]
    simp only [this]

theorem wp_transfer {o : Oper} {d : Option Tmp} (hd : o.dst = d) {a b : Act} (hda : ∀ x, d = some x → x < a.tmps.size) {w : World} {G : Value → World → Prop}
    (he : execOp a.eval o = execOp b.eval o) (h : o.wp P a w (fun a' w' => a'.defers = a.defers ∧ G (got d a') w') NoQ) : o.wp P b w (fun b' w' => ∃ v, b' = b.put d v ∧ G (gv d v) w') Q := by
  unfold Oper.wp at *
  rw [he] at h
  have key : ∀ v, got d (a.put d v) = gv d v := fun v => got_put hda
  generalize (execOp b.eval o).run P w = r at *
  cases r with
  | ok n w' =>
    cases n <;> simp only [Oper.upon, hd] at h ⊢
    case value u => rw [key] at h; exact ⟨u, rfl, h.2⟩
    case skip => rw [key] at h; exact ⟨undef, rfl, h.2⟩
    case defer x =>
      exfalso
      have := congrArg List.length h.1
      cases d <;> simp [Act.put] at this
    case enter f args =>
      refine Calls.mono h fun e w'' hh => ?_
      cases e with
      | returned u =>
        have hh' : (a.put d u).defers = a.defers ∧ G (got d (a.put d u)) w'' := hh
        rw [key] at hh'
        exact ⟨u, rfl, hh'.2⟩
      | panicked c => exact hh.elim
      | outgrown => obtain ⟨_, _, hh⟩ := hh; exact hh.elim
    case row row args =>
      refine Rows.mono h fun u w'' hh => ?_
      rw [key] at hh
      exact ⟨u, rfl, hh.2⟩
  | halt x w' =>
    cases x <;> simp only [Oper.upon] at h ⊢
    exact h.elim

/-- what holds while the region runs -/
structure Inv (P : Program) (ops : Array Oper) (R : World → World → Prop) (X : Ext) (w0 : World) (post : Nat → Option (Value → World → Prop)) (tok : Nat → World → Prop) (a0 : Act) (L0 H : List Nat) (listed : Array Bool) (a : Act) (w : World) : Prop where
  size : listed.size = ops.size
  sup : ∀ i, i < ops.size → L0.contains i = true → listed.getD i true = true
  only : ∀ i, i < ops.size → listed.getD i true = true → L0.contains i = true ∨ i ∈ H
  closed : ∀ i ∈ H, listed.getD i true = true → ∀ j ∈ predsOf ops i, listed.getD j false = true
  rel : R w0 w
  tk : ∀ i ∈ H, listed.getD i true = false → tok i w
  tsize : a.tmps.size = a0.tmps.size
  dfs : a.defers = a0.defers
  frame : ∀ t, (∀ i ∈ H, dstOf ops i ≠ some t) → a.tmps.getD t undef = a0.tmps.getD t undef
  val : ∀ i ∈ H, listed.getD i true = true → ∀ o, ops[i]? = some o → match post i with
    | some p => (X.tmp i = true → ∀ c, X.c = some c → listed.getD c true = false) → p (slotOf ops a i) w
    | none => (isWanted ops o a = true → ∀ w', R w w' → (execOp a.eval o).run P w' = .ok (.value (slotOf ops a i)) w') ∧ (isWanted ops o a = false → slotOf ops a i = undef)
  pcv : ∀ i ∈ H, X.at i = true → listed.getD i true = true → X.pc (pv ops a i) w

structure Good (ops : Array Oper) (a0 : Act) (listed : Array Bool) (a : Act) (pre : List Nat) (c : Act) : Prop where
  tsize : c.tmps.size = a0.tmps.size
  dfs : c.defers = a0.defers
  frame : ∀ t, (∀ i ∈ pre, dstOf ops i ≠ some t) → c.tmps.getD t undef = a0.tmps.getD t undef
  val : ∀ i ∈ pre, listed.getD i true = true → slotOf ops c i = slotOf ops a i

theorem inOrder_spec : ∀ (l pre : List Nat) (i : Nat) (rest : List Nat), inOrder ops pre (l ++ i :: rest) = true → ∀ j ∈ predsOf ops i, j ∈ pre ∨ j ∈ l
  | [], pre, i, rest, h, j, hj => by
    simp only [List.nil_append, inOrder, Bool.and_eq_true, List.all_eq_true] at h
    exact .inl (by simpa using h.1 j hj)
  | x :: l, pre, i, rest, h, j, hj => by
    simp only [List.cons_append, inOrder, Bool.and_eq_true] at h
    rcases inOrder_spec l (x :: pre) i rest h.2 j hj with h' | h'
    · rcases List.mem_cons.1 h' with rfl | h'
      · exact .inr (by simp)
      · exact .inl h'
    · exact .inr (by simp [h'])

/-- what the closed check says of one operation -/
structure OkH (ops : Array Oper) (L0 H T : List Nat) (nt : Nat) (i : Nat) (o : Oper) (d : Option Tmp) : Prop where
  op : ops[i]? = some o
  dst : o.dst = d
  plain : plainOp o.op = true
  lt : ∀ x, d = some x → x < nt
  notL : L0.contains i = false
  notT : i ∉ T
  dsts : ∀ x, d = some x → ∀ j ∈ H, j ≠ i → dstOf ops j ≠ some x
  look : ∀ j ∈ H, ∀ e, dstOf ops j = some e → e ∈ o.looksAt ops → j ∈ predsOf ops i
theorem okH_spec {L0 H T : List Nat} {nt i : Nat} (h : okH ops L0 H T nt i = true) : ∃ o d, OkH ops L0 H T nt i o d ∧ ∀ t T', T = t :: T' → leads ops H t ops.size i = true := by
  unfold okH at h
  simp only [Bool.and_eq_true, Bool.not_eq_true'] at h
  obtain ⟨⟨⟨⟨h1, h2⟩, h3⟩, h4⟩, h5⟩ := h
  cases ho : ops[i]? with
  | none => simp [ho] at h1
  | some o =>
    rw [ho] at h1
    simp only [Bool.and_eq_true] at h1
    obtain ⟨hp, hd⟩ := h1
    have hdst : dstOf ops i = o.dst := by simp [dstOf, ho]
    refine ⟨o, o.dst, ⟨ho, rfl, hp, fun x hx => by rw [hx] at hd; simpa using hd, h2, by simpa using h3, ?_, ?_⟩, ?_⟩
    · intro x hx j hj hne he
      have := (List.all_eq_true.1 h4) j hj
      simp only [Bool.and_eq_true, Bool.or_eq_true, beq_iff_eq, hne, false_or, bne_iff_ne] at this
      rcases this.1 with h6 | h6
      · rw [hdst, hx] at h6; cases h6
      · exact h6 (he.trans (hx.symm.trans hdst.symm))
    · intro j hj e he hl
      have := (List.all_eq_true.1 h4) j hj
      simp only [Bool.and_eq_true] at this
      have h6 := this.2
      rw [he] at h6
      simp only [Bool.or_eq_true, Bool.not_eq_true'] at h6
      rcases h6 with h6 | h6
      · simp [looks, ho, hl] at h6
      · simpa using h6
    · intro t T' hT
      rw [hT] at h5
      exact h5

theorem leads_spec {H : List Nat} {t : Nat} {listed : Array Bool} (hcl : ∀ i ∈ H, listed.getD i true = true → ∀ j ∈ predsOf ops i, listed.getD j false = true) (ht : ∀ j ∈ predsOf ops t, listed.getD j false = true) :
    ∀ (k h : Nat), leads ops H t k h = true → listed.getD h false = true
  | 0, h, hl => ht h (by simpa [leads] using hl)
  | k + 1, h, hl => by
    simp only [leads, Bool.or_eq_true, List.any_eq_true, Bool.and_eq_true] at hl
    rcases hl with hl | ⟨j, hj, h1, h2⟩
    · exact ht h (by simpa using hl)
    · have hjl := leads_spec hcl ht k j h2
      refine hcl j hj ?_ h (by simpa using h1)
      rcases Nat.lt_or_ge j listed.size with hlt | hge
      · simpa [hlt] using hjl
      · simp [Array.getElem?_eq_none hge] at hjl

variable {L0 H T : List Nat} {nt : Nat} {a0 : Act} {End : Act → Prop}

theorem getD_tf {l : Array Bool} {j : Nat} (h : j < l.size) : l.getD j true = l.getD j false := by simp [h]
theorem getD_false_lt {l : Array Bool} {j : Nat} (h : l.getD j false = true) : j < l.size ∧ l.getD j true = true := by
  rcases Nat.lt_or_ge j l.size with hlt | hge
  · exact ⟨hlt, by rw [getD_tf hlt]; exact h⟩
  · simp [Array.getElem?_eq_none hge] at h

/-- a frame of the chain and the real one agree on what an operation looks at -/
theorem agree {listed : Array Bool} {a c : Act} {w : World} {pre rest : List Nat} {i : Nat} {o : Oper} {d : Option Tmp} (hI : Inv P ops R X w0 post tok a0 L0 H listed a w) (hH : H = pre ++ i :: rest) (hord : inOrder ops L0 H = true)
    (hL0 : ∀ j ∈ L0, j ∉ H) (hk : OkH ops L0 H T nt i o d) (hG : Good ops a0 listed a pre c) (hp : ∀ j ∈ predsOf ops i, listed.getD j false = true) : ∀ t ∈ o.looksAt ops, c.tmps.getD t undef = a.tmps.getD t undef := by
  intro t ht
  by_cases hw : ∃ j ∈ H, dstOf ops j = some t
  · obtain ⟨j, hj, he⟩ := hw
    have hjp := hk.look j hj t he ht
    have hpre : j ∈ pre := by
      rcases inOrder_spec pre L0 i rest (hH ▸ hord) j hjp with h' | h'
      · exact absurd hj (hL0 j h')
      · exact h'
    have := hG.val j hpre (getD_false_lt (hp j hjp)).2
    simpa [slotOf, got, he] using this
  · have h1 : ∀ j ∈ H, dstOf ops j ≠ some t := fun j hj he => hw ⟨j, hj, he⟩
    rw [hI.frame t h1, hG.frame t (fun j hj => h1 j (by rw [hH]; simp [hj]))]

theorem facts_ok {listed : Array Bool} {a c : Act} {w w' : World} {pre rest : List Nat} {i : Nat} (hI : Inv P ops R X w0 post tok a0 L0 H listed a w) (hH : H = pre ++ i :: rest) (hord : inOrder ops L0 H = true)
    (hsub : ∀ i, ∀ p, post i = some p → i ∈ H) (hops : ∀ j ∈ H, ∃ o, ops[j]? = some o) (hL0 : ∀ j ∈ L0, j ∉ H) (hstab : ∀ i p, post i = some p → ∀ v w w', R w0 w → ((X.tmp i = false ∧ X.at i = false) ∧ R w w' ∨ X.S w w') → p v w → p v w') (hG : Good ops a0 listed a pre c) (hp : ∀ j ∈ predsOf ops i, listed.getD j false = true)
    (hcase : X.at i = true → w = w' ∧ listed.getD i true = false) (hw : R w w') : Facts ops X post i c w' := by
  intro j hj p hpj
  obtain ⟨hpj, htm, haj⟩ := postFor_some hpj
  have hjH := hsub j p hpj
  have hpre : j ∈ pre := by
    rcases inOrder_spec pre L0 i rest (hH ▸ hord) j hj with h' | h'
    · exact absurd hjH (hL0 j h')
    · exact h'
  have hl := (getD_false_lt (hp j hj)).2
  obtain ⟨o, ho⟩ := hops j hjH
  have := hI.val j hjH hl o ho
  rw [hpj] at this
  rw [hG.val j hpre hl]
  cases ht : X.tmp j with
  | false => exact hstab j p hpj _ _ _ hI.rel (.inl ⟨⟨ht, haj⟩, hw⟩) (this fun h => by rw [ht] at h; cases h)
  | true =>
    have hat := htm ht
    obtain ⟨rfl, hun⟩ := hcase hat
    refine this fun _ y hy => ?_
    have : X.c = some i := by simpa [Ext.at] using hat
    rw [this] at hy
    injection hy with hy
    rw [← hy]; exact hun

/-- down the chain, with the values that have come up -/
theorem chain {listed : Array Bool} {a : Act} {w : World} (hI : Inv P ops R X w0 post tok a0 L0 H listed a w) (hrefl : ∀ w, R w w) (hord : inOrder ops L0 H = true)
    (hokH : ∀ i ∈ H, ∃ o d, OkH ops L0 H T nt i o d) (hL0 : ∀ j ∈ L0, j ∉ H) (hnd : H.Nodup) (hnone : ∀ i ∈ H, post i = none → X.at i = false ∧ ∃ x, dstOf ops i = some x) (hsub : ∀ i, ∀ p, post i = some p → i ∈ H) (hstab : ∀ i p, post i = some p → ∀ v w w', R w0 w → ((X.tmp i = false ∧ X.at i = false) ∧ R w w' ∨ X.S w w') → p v w → p v w') (hnt : nt ≤ a0.tmps.size) :
    ∀ (mid pre rest : List Nat) (c : Act), H = pre ++ (mid ++ rest) → Good ops a0 listed a pre c → Seq P ops R X w0 post tok End (mid ++ rest) c → ∃ c', Seq P ops R X w0 post tok End rest c' ∧ Good ops a0 listed a (pre ++ mid) c'
  | [], pre, rest, c, _, hG, hS => ⟨c, hS, by simpa using hG⟩
  | i :: mid, pre, rest, c, hH, hG, hS => by
    have hiH : i ∈ H := by rw [hH]; simp
    obtain ⟨o, d, hk⟩ := hokH i hiH
    have hdst : dstOf ops i = d := by simp [dstOf, hk.op, hk.dst]
    have hH' : H = pre ++ i :: (mid ++ rest) := by rw [hH]; simp
    have hpreH : ∀ j ∈ pre, j ∈ H := fun j hj => by rw [hH]; simp [hj]
    have hpren : ∀ j ∈ pre, j ≠ i := fun j hj e => by
      subst e
      rw [hH'] at hnd
      exact (List.nodup_append.1 hnd).2.2 j hj j (by simp) rfl
    -- putting a value that agrees
    have step : ∀ v, (listed.getD i true = true → gv d v = slotOf ops a i) → Good ops a0 listed a (pre ++ [i]) (c.put o.dst v) := by
      intro v hv
      rw [hk.dst]
      refine ⟨by rw [put_size]; exact hG.tsize, by cases d <;> simp [Act.put, hG.dfs], fun t ht => ?_, fun j hj hl => ?_⟩
      · rw [put_getD', if_neg (fun h => ht i (by simp) (by rw [hdst, h.1]))]
        exact hG.frame t fun j hj => ht j (by simp [hj])
      · rcases List.mem_append.1 hj with hj | hj
        · have := hG.val j hj hl
          unfold slotOf at this ⊢
          rw [got_other]
          · exact this
          · intro x hx
            exact hk.dsts x hx j (hpreH j hj) (hpren j hj)
        · obtain rfl : j = i := by simpa using hj
          unfold slotOf
          rw [hdst, got_put (fun x hx => by rw [hG.tsize]; exact Nat.lt_of_lt_of_le (hk.lt x hx) hnt)]
          have := hv hl
          unfold slotOf at this
          rw [hdst] at this
          exact this
    have go : ∀ v, (listed.getD i true = true → gv d v = slotOf ops a i) → Seq P ops R X w0 post tok End (mid ++ rest) (c.put o.dst v) → ∃ c', Seq P ops R X w0 post tok End rest c' ∧ Good ops a0 listed a (pre ++ i :: mid) c' := by
      intro v hv hk'
      have := chain hI hrefl hord hokH hL0 hnd hnone hsub hstab hnt mid (pre ++ [i]) rest (c.put o.dst v) (by rw [hH]; simp) (step v hv) hk'
      simpa using this
    have hS' := hS o hk.op
    cases hpi : post i with
    | some p =>
      rw [hpi] at hS'
      exact go (slotOf ops a i) (fun _ => by unfold slotOf; rw [hdst]; cases d <;> rfl) (hS'.2.2 _)
    | none =>
      rw [hpi] at hS'
      obtain ⟨E, h1, h2, h3⟩ := hS'
      refine go E (fun hl => ?_) h3
      obtain ⟨hat, x, hx⟩ := hnone i hiH hpi
      have hdx : d = some x := hdst.symm.trans hx
      rw [show gv d E = E by rw [hdx]; rfl]
      have hp := hI.closed i hiH hl
      have hag := agree hI hH' hord hL0 hk hG hp
      have hwant : isWanted ops o c = isWanted ops o a := wanted_agree (by rw [hG.tsize, hI.tsize]) hag
      have hv := hI.val i hiH hl o hk.op
      rw [hpi] at hv
      cases hwa : isWanted ops o a with
      | false => rw [h2 (hwant.trans hwa), hv.2 hwa]
      | true =>
        have e1 := h1 (hwant.trans hwa) w hI.rel (facts_ok hI hH' hord hsub (fun j hj => let ⟨o, _, hk⟩ := hokH j hj; ⟨o, hk.op⟩) hL0 hstab hG hp (fun h => by rw [hat] at h; cases h) (hrefl w))
        have e2 := hv.1 hwa w (hrefl w)
        rw [exec_agree hk.plain hag, e2] at e1
        injection e1 with e1 _
        injection e1 with e1
        exact e1.symm

theorem not_look_self {listed : Array Bool} {i : Nat} {o : Oper} {d : Option Tmp} (hk : OkH ops L0 H T nt i o d) (hiH : i ∈ H) (hun : listed.getD i true = false) (hp : ∀ j ∈ predsOf ops i, listed.getD j false = true) : ∀ x, d = some x → x ∉ o.looksAt ops := fun x hx h => by
  have hdst : dstOf ops i = some x := by simp [dstOf, hk.op, hk.dst, hx]
  have := (getD_false_lt (hp i (hk.look i hiH x hdst h))).2
  rw [this] at hun; cases hun

theorem put_agree {o : Oper} {a : Act} {d : Option Tmp} {v : Value} (h : ∀ x, d = some x → x ∉ o.looksAt ops) : ∀ t ∈ o.looksAt ops, (a.put d v).tmps.getD t undef = a.tmps.getD t undef := fun t ht => by
  rw [put_getD', if_neg]
  rintro ⟨h1, _⟩
  exact h t h1 ht

theorem Inv.step {listed : Array Bool} {a : Act} {w w' : World} {i : Nat} {o : Oper} {d : Option Tmp} {v : Value} (hI : Inv P ops R X w0 post tok a0 L0 H listed a w) (htrans : ∀ x y z, R x y → R y z → R x z)
    (hokH : ∀ i ∈ H, ∃ o d, OkH ops L0 H T nt i o d) (hstab : ∀ i p, post i = some p → ∀ v w w', R w0 w → ((X.tmp i = false ∧ X.at i = false) ∧ R w w' ∨ X.S w w') → p v w → p v w') (hnt : nt ≤ a0.tmps.size) (hnone : ∀ i ∈ H, post i = none → X.at i = false ∧ ∃ x, dstOf ops i = some x) (hiH : i ∈ H) (hk : OkH ops L0 H T nt i o d) (hun : listed.getD i true = false)
    (hp : ∀ j ∈ predsOf ops i, listed.getD j false = true) (hR : R w w') (hSx : X.at i = false → X.S w w') (hpcS : ∀ f w w', R w0 w → X.S w w' → X.pc f w → X.pc f w') (hXH : ∀ i ∈ H, X.at i = true → ∀ j ∈ predsOf ops i, j ∈ H) (hT : ∀ j, j ≠ i → tok j w → tok j w') (hPC : X.at i = true → X.pc (pv ops a i) w')
    (hv : match post i with
      | some p => p (gv d v) w'
      | none => (isWanted ops o a = true → ∀ w'', R w' w'' → (execOp a.eval o).run P w'' = .ok (.value v) w'') ∧ (isWanted ops o a = false → v = undef)) :
    Inv P ops R X w0 post tok a0 L0 H (listed.setIfInBounds i true) (a.put d v) w' := by
  have hdst : dstOf ops i = d := by simp [dstOf, hk.op, hk.dst]
  have hil : i < listed.size := by rw [hI.size]; exact (Array.getElem?_eq_some_iff.1 hk.op).1
  have hset : ∀ j (x : Bool), (listed.setIfInBounds i true).getD j x = if j = i then true else listed.getD j x := by
    intro j x
    simp only [Array.getD_eq_getD_getElem?, Array.getElem?_setIfInBounds]
    by_cases h : i = j
    · subst h; simp [hil]
    · have h' : ¬ j = i := fun e => h e.symm
      simp [h, h']
  have hsl : slotOf ops (a.put d v) i = gv d v := by
    unfold slotOf
    rw [hdst, got_put (fun x hx => by rw [hI.tsize]; exact Nat.lt_of_lt_of_le (hk.lt x hx) hnt)]
  refine ⟨by simpa using hI.size, fun j hj hl => ?_, fun j hj hl => ?_, fun j hj hl k hkk => ?_, htrans _ _ _ hI.rel hR, fun j hj hl => (by rw [hset] at hl; split at hl; (· cases hl); (· rename_i hne; exact hT j hne (hI.tk j hj hl))), by rw [put_size]; exact hI.tsize, by cases d <;> simp [Act.put, hI.dfs], fun t ht => ?_, fun j hj hl o' ho' => ?_, fun j hj hat hl => ?_⟩
  · rw [hset]; split
    · rfl
    · exact hI.sup j hj hl
  · rw [hset] at hl
    by_cases h : j = i
    · subst h; exact .inr hiH
    · rw [if_neg h] at hl; exact hI.only j hj hl
  · rw [hset] at hl ⊢
    by_cases h : k = i
    · simp [h]
    · rw [if_neg h]
      by_cases h' : j = i
      · subst h'; exact hp k hkk
      · rw [if_neg h'] at hl; exact hI.closed j hj hl k hkk
  · rw [put_getD', if_neg (fun h => ht i hiH (by rw [hdst, h.1]))]
    exact hI.frame t ht
  · rw [hset] at hl
    by_cases h : j = i
    · subst h
      obtain rfl : o = o' := by have := hk.op; rw [ho'] at this; injection this with this; exact this.symm
      have hns := not_look_self hk hiH hun hp
      have hex := exec_agree hk.plain (put_agree (a := a) (v := v) hns)
      have hwn : isWanted ops o (a.put d v) = isWanted ops o a := wanted_agree (by rw [put_size]) (put_agree hns)
      rw [hsl, hex, hwn]
      cases hpi : post j with
      | some p => rw [hpi] at hv; exact fun _ => hv
      | none =>
        rw [hpi] at hv
        obtain ⟨_, x, hx⟩ := hnone j hiH hpi
        have hdx : d = some x := hdst.symm.trans hx
        rw [show gv d v = v by rw [hdx]; rfl]
        exact hv
    · rw [if_neg h] at hl
      obtain ⟨oj, dj, hkj⟩ := hokH j hj
      obtain rfl : oj = o' := by have := hkj.op; rw [ho'] at this; injection this with this; exact this.symm
      have hdj : dstOf ops j = dj := by simp [dstOf, hkj.op, hkj.dst]
      have hns : ∀ x, d = some x → x ∉ oj.looksAt ops := fun x hx hlk => by
        have := (getD_false_lt (hI.closed j hj hl i (hkj.look i hiH x (by rw [hdst, hx]) hlk))).2
        rw [this] at hun; cases hun
      have hex := exec_agree hkj.plain (put_agree (a := a) (v := v) hns)
      have hwn : isWanted ops oj (a.put d v) = isWanted ops oj a := wanted_agree (by rw [put_size]) (put_agree hns)
      have hslj : slotOf ops (a.put d v) j = slotOf ops a j := by
        unfold slotOf
        rw [got_other]
        intro x hx
        exact hk.dsts x hx j hj h
      have hvj := hI.val j hj hl oj hkj.op
      rw [hslj, hex, hwn]
      cases hpj : post j with
      | some p =>
        rw [hpj] at hvj
        intro hc
        cases ht : X.tmp j with
        | false =>
          cases haj : X.at j with
          | false => exact hstab j p hpj _ _ _ hI.rel (.inl ⟨⟨ht, haj⟩, hR⟩) (hvj fun h => by rw [ht] at h; cases h)
          | true =>
            have hci : X.at i = false := by
              cases hat : X.at i with
              | false => rfl
              | true =>
                exfalso
                have h1 : X.c = some i := by simpa [Ext.at] using hat
                have h2 : X.c = some j := by simpa [Ext.at] using haj
                rw [h1] at h2
                injection h2 with h2
                exact h h2.symm
            exact hstab j p hpj _ _ _ hI.rel (.inr (hSx hci)) (hvj fun h => by rw [ht] at h; cases h)
        | true =>
          have hci : X.at i = false := by
            cases hat : X.at i with
            | false => rfl
            | true =>
              have hxc : X.c = some i := by simpa [Ext.at] using hat
              have := hc ht i hxc
              rw [hset, if_pos rfl] at this; cases this
          refine hstab j p hpj _ _ _ hI.rel (.inr (hSx hci)) (hvj fun _ y hy => ?_)
          have := hc ht y hy
          rw [hset] at this
          split at this
          · cases this
          · exact this
      | none =>
        rw [hpj] at hvj
        exact ⟨fun hw w'' h2 => hvj.1 hw w'' (htrans _ _ _ hR h2), hvj.2⟩
  · have hother : ∀ y ∈ predsOf ops j, y ≠ i → slotOf ops (a.put d v) y = slotOf ops a y := fun y hy hne => by
      unfold slotOf
      rw [got_other]
      intro x hx
      exact hk.dsts x hx y (hXH j hj hat y hy) hne
    rw [hset] at hl
    by_cases h : j = i
    · subst h
      rw [pv_eq (a := a.put d v) (b := a) fun y hy => hother y hy fun e => by
        subst e
        have := (getD_false_lt (hp y hy)).2
        rw [this] at hun; cases hun]
      exact hPC hat
    · rw [if_neg h] at hl
      rw [pv_eq (a := a.put d v) (b := a) fun y hy => hother y hy fun e => by
        subst e
        have := (getD_false_lt (hI.closed j hj hl y hy)).2
        rw [this] at hun; cases hun]
      have hci : X.at i = false := by
        cases hat2 : X.at i with
        | false => rfl
        | true =>
          exfalso
          have h1 : X.c = some i := by simpa [Ext.at] using hat2
          have h2 : X.c = some j := by simpa [Ext.at] using hat
          rw [h1] at h2
          injection h2 with h2
          exact h h2.symm
      exact hpcS _ _ _ hI.rel (hSx hci) (hI.pcv j hj hat hl)

theorem tail_sound : ∀ (T : List Nat) (l : List Oper) (fuel : Nat) (listed : Array Bool) (a : Act) (w : World), tailOk ops listed T = true → T.mapM (fun t => ops[t]?) = some l → T.length ≤ fuel → wpList P ops Q l a w → wpAny P .any ops Q fuel listed a w
  | [], l, fuel, listed, a, w, ht, hm, _, h => by
    have hl : l = [] := by simpa using hm.symm
    subst hl
    exact wpAny_done (by simpa [tailOk] using ht) h fuel
  | t :: T, l, 0, listed, a, w, _, _, hf, _ => by simp at hf
  | t :: T, l, fuel + 1, listed, a, w, ht, hm, hf, h => by
    simp only [tailOk, Bool.and_eq_true, beq_iff_eq] at ht
    cases ho : ops[t]? with
    | none => simp [ho] at hm
    | some o =>
      cases hT : T.mapM (fun t => ops[t]?) with
      | none => simp [ho, hT] at hm
      | some l' =>
        simp only [List.mapM_cons, ho, hT, Option.pure_def, Option.bind_eq_bind, Option.bind_some, Option.some.injEq] at hm
        subst hm
        refine ⟨fun h0 => (by rw [ht.1] at h0; cases h0), fun i hi => ?_⟩
        rw [ht.1] at hi
        obtain rfl : i = t := by simpa using hi
        have ih := fun a w hh => tail_sound T l' fuel (listed.setIfInBounds i true) a w ht.2 hT (by simpa using hf) hh
        unfold wpOp
        rw [ho]
        simp only [wpList] at h ⊢
        split
        · rename_i hw
          rw [if_pos hw] at h
          exact h.imp (Oper.wp_mono ih) id
        · rename_i hw
          rw [if_neg hw] at h
          exact ih _ _ h

theorem first_unlisted {listed : Array Bool} : ∀ (l : List Nat), (∃ i ∈ l, listed.getD i true = false) → ∃ pre i rest, l = pre ++ i :: rest ∧ listed.getD i true = false ∧ ∀ j ∈ pre, listed.getD j true = true
  | [], ⟨i, h, _⟩ => by cases h
  | x :: l, ⟨i, h, hi⟩ => by
    cases hx : listed.getD x true with
    | false => exact ⟨[], x, l, rfl, hx, fun j hj => by cases hj⟩
    | true =>
      have : i ∈ l := by
        rcases List.mem_cons.1 h with rfl | h
        · rw [hi] at hx; cases hx
        · exact h
      obtain ⟨pre, k, rest, h1, h2, h3⟩ := first_unlisted l ⟨i, this, hi⟩
      exact ⟨x :: pre, k, rest, by rw [h1]; rfl, h2, fun j hj => by
        rcases List.mem_cons.1 hj with rfl | hj
        · exact hx
        · exact h3 j hj⟩

theorem chainOk_spec : ∀ (t : Nat) (T : List Nat), chainOk ops (t :: T) = true → ∀ i ∈ T, ∃ u ∈ t :: T, u ∈ predsOf ops i
  | t, [], _, i, hi => by cases hi
  | t, u :: T, h, i, hi => by
    simp only [chainOk, Bool.and_eq_true] at h
    rcases List.mem_cons.1 hi with rfl | hi
    · exact ⟨t, by simp, by simpa using h.1⟩
    · obtain ⟨x, hx, hx'⟩ := chainOk_spec u T h.2 i hi
      exact ⟨x, by simp at hx ⊢; exact .inr hx, hx'⟩

def EndT (P : Program) (ops : Array Oper) (R : World → World → Prop) (X : Ext) (w0 : World) (post : Nat → Option (Value → World → Prop)) (Q : Exit → Act → World → Prop) (H T : List Nat) (c : Act) : Prop :=
  ∀ w, R w0 w → (∀ i ∈ H, ∀ p, postEnd X post i = some p → p (slotOf ops c i) w) → (∀ i ∈ H, X.at i = true → X.pc (pv ops c i) w) → ∀ l, T.mapM (fun t => ops[t]?) = some l → wpList P ops Q l c w


theorem seq_done {l : List Oper} {listed : Array Bool} {a : Act} {w : World} {fuel : Nat} (hI : Inv P ops R X w0 post tok a0 L0 H listed a w) (hrefl : ∀ w, R w w) (hord : inOrder ops L0 H = true)
    (hokH : ∀ i ∈ H, ∃ o d, OkH ops L0 H T nt i o d) (hL0 : ∀ j ∈ L0, j ∉ H) (hL0s : ∀ j ∈ L0, j < ops.size) (hTn : ∀ t ∈ T, L0.contains t = false ∧ t ∉ H)
    (hcov : ∀ i, i < ops.size → i ∈ L0 ∨ i ∈ H ∨ i ∈ T) (htail : tailOk ops ((List.range ops.size).map fun i => !T.contains i).toArray T = true) (hl : T.mapM (fun t => ops[t]?) = some l)
    (hnd : H.Nodup) (hnone : ∀ i ∈ H, post i = none → X.at i = false ∧ ∃ x, dstOf ops i = some x) (hsub : ∀ i, ∀ p, post i = some p → i ∈ H) (hstab : ∀ i p, post i = some p → ∀ v w w', R w0 w → ((X.tmp i = false ∧ X.at i = false) ∧ R w w' ∨ X.S w w') → p v w → p v w') (hnt : nt ≤ a0.tmps.size)
    (hS : Seq P ops R X w0 post tok (EndT P ops R X w0 post Q H T) H a0) (hops : ∀ j ∈ H, ∃ o, ops[j]? = some o) (hall : ∀ i ∈ H, listed.getD i true = true) (hf : T.length ≤ fuel) : wpAny P .any ops Q fuel listed a w := by
  obtain ⟨c, hc, hG⟩ := chain hI hrefl hord hokH hL0 hnd hnone hsub hstab hnt H [] [] a0 (by simp) ⟨rfl, rfl, fun _ _ => rfl, fun j hj => by cases hj⟩ (by simpa using hS)
  rw [List.nil_append] at hG
  have hca : c = a := by
    obtain ⟨ct, cd⟩ := c
    obtain ⟨at', ad⟩ := a
    have hd : cd = ad := hG.dfs.trans hI.dfs.symm
    have ht : ct = at' := by
      apply Array.ext
      · exact hG.tsize.trans hI.tsize.symm
      · intro t h1 h2
        have : ct.getD t undef = at'.getD t undef := by
          by_cases hw : ∃ j ∈ H, dstOf ops j = some t
          · obtain ⟨j, hj, he⟩ := hw
            have := hG.val j hj (hall j hj)
            simpa [slotOf, got, he] using this
          · have h1 : ∀ j ∈ H, dstOf ops j ≠ some t := fun j hj he => hw ⟨j, hj, he⟩
            exact (hG.frame t h1).trans (hI.frame t h1).symm
        simpa [h1, h2] using this
    rw [hd, ht]
  subst hca
  have hlist : listed = ((List.range ops.size).map fun i => !T.contains i).toArray := by
    apply Array.ext
    · simp [hI.size]
    · intro i h1 h2
      have hi : i < ops.size := by rw [← hI.size]; exact h1
      have e1 : listed[i] = listed.getD i true := by simp [h1]
      simp only [List.getElem_toArray, List.getElem_map, List.getElem_range]
      rw [e1]
      by_cases hT : i ∈ T
      · have : listed.getD i true = false := by
          cases h : listed.getD i true with
          | false => rfl
          | true =>
            exfalso
            have hn := hTn i hT
            rcases hI.only i hi h with h' | h'
            · rw [hn.1] at h'; cases h'
            · exact hn.2 h'
        rw [this]; simp [hT]
      · have : listed.getD i true = true := by
          rcases hcov i hi with h | h | h
          · exact hI.sup i hi (by simpa using h)
          · exact hall i h
          · exact absurd h hT
        rw [this]; simp [hT]
  rw [hlist]
  refine tail_sound T l fuel _ c w htail hl hf (hc w hI.rel (fun i hi p hp => ?_) (fun i hi hat => hI.pcv i hi hat (hall i hi)) l hl)
  obtain ⟨o, ho⟩ := hops i hi
  have := hI.val i hi (hall i hi) o ho
  obtain ⟨hp, ht⟩ := postEnd_some hp
  rw [hp] at this
  exact this fun h => by rw [ht] at h; cases h

theorem seq_sound (hrefl : ∀ w, R w w) (hSrefl : ∀ w, X.S w w) (hSR : ∀ w w', X.S w w' → R w w') (hpcS : ∀ f w w', R w0 w → X.S w w' → X.pc f w → X.pc f w') (hXH : ∀ i ∈ H, X.at i = true → ∀ j ∈ predsOf ops i, j ∈ H) (htrans : ∀ x y z, R x y → R y z → R x z) (hord : inOrder ops L0 H = true)
    (hokH : ∀ i ∈ H, ∃ o d, OkH ops L0 H T nt i o d) (hlead : ∀ i ∈ H, ∀ t T', T = t :: T' → leads ops H t ops.size i = true) (hL0 : ∀ j ∈ L0, j ∉ H) (hL0s : ∀ j ∈ L0, j < ops.size) (hTn : ∀ t ∈ T, L0.contains t = false ∧ t ∉ H) (hchain : chainOk ops T = true)
    (hcov : ∀ i, i < ops.size → i ∈ L0 ∨ i ∈ H ∨ i ∈ T) (htail : tailOk ops ((List.range ops.size).map fun i => !T.contains i).toArray T = true) {l : List Oper} (hl : T.mapM (fun t => ops[t]?) = some l)
    (hnd : H.Nodup) (hnone : ∀ i ∈ H, post i = none → X.at i = false ∧ ∃ x, dstOf ops i = some x) (hsub : ∀ i, ∀ p, post i = some p → i ∈ H) (hstab : ∀ i p, post i = some p → ∀ v w w', R w0 w → ((X.tmp i = false ∧ X.at i = false) ∧ R w w' ∨ X.S w w') → p v w → p v w') (hnt : nt ≤ a0.tmps.size)
    (hS : Seq P ops R X w0 post tok (EndT P ops R X w0 post Q H T) H a0) :
    ∀ (fuel : Nat) (listed : Array Bool) (a : Act) (w : World), Inv P ops R X w0 post tok a0 L0 H listed a w → (H.filter fun i => !listed.getD i true).length + T.length ≤ fuel → wpAny P .any ops Q fuel listed a w := by
  have hops : ∀ j ∈ H, ∃ o, ops[j]? = some o := fun j hj => let ⟨o, _, hk⟩ := hokH j hj; ⟨o, hk.op⟩
  have hG0 : ∀ listed a, Good ops a0 listed a [] a0 := fun _ _ => ⟨rfl, rfl, fun _ _ => rfl, fun j hj => by cases hj⟩
  intro fuel
  induction fuel with
  | zero =>
    intro listed a w hI hf
    have hHl : ∀ i ∈ H, listed.getD i true = true := fun i hi => by
      cases h : listed.getD i true with
      | true => rfl
      | false =>
        have : 0 < (H.filter fun i => !listed.getD i true).length := List.length_pos_of_mem (List.mem_filter.2 ⟨hi, by simp [h]⟩)
        omega
    exact seq_done hI hrefl hord hokH hL0 hL0s hTn hcov htail hl hnd hnone hsub hstab hnt hS hops hHl (by omega)
  | succ fuel ih =>
    intro listed a w hI hf
    by_cases hall : ∀ i ∈ H, listed.getD i true = true
    · exact seq_done hI hrefl hord hokH hL0 hL0s hTn hcov htail hl hnd hnone hsub hstab hnt hS hops hall (by omega)
    · have hex : ∃ i ∈ H, listed.getD i true = false := by
        apply Classical.byContradiction
        intro hn
        exact hall fun i hi => by
          cases h : listed.getD i true with
          | true => rfl
          | false => exact absurd ⟨i, hi, h⟩ hn
      refine ⟨fun h0 => ?_, fun i hi => ?_⟩
      · exfalso
        obtain ⟨pre, i, rest, hH, hun, hpre⟩ := first_unlisted H hex
        obtain ⟨o, ho⟩ := hops i (by rw [hH]; simp)
        have : i ∈ Region.ready .any ops listed := mem_ready.2 ⟨hun, o, ho, fun e he hb => by
          have hj : e.on ∈ predsOf ops i := by
            simp only [predsOf, ho]
            exact List.mem_map.2 ⟨e, List.mem_filter.2 ⟨Array.mem_toList_iff.2 he, hb⟩, rfl⟩
          rcases inOrder_spec pre L0 i rest (hH ▸ hord) e.on hj with h | h
          · have := hI.sup e.on (hL0s _ h) (by simpa using h)
            rw [← getD_tf (by rw [hI.size]; exact hL0s _ h)]; exact this
          · obtain ⟨o', ho'⟩ := hops e.on (by rw [hH]; simp [h])
            rw [← getD_tf (by rw [hI.size]; exact (Array.getElem?_eq_some_iff.1 ho').1)]
            exact hpre _ h⟩
        rw [h0] at this
        cases this
      · obtain ⟨hun, o, ho, hall'⟩ := mem_ready.1 hi
        have hp : ∀ j ∈ predsOf ops i, listed.getD j false = true := fun j hj => by
          simp only [predsOf, ho] at hj
          obtain ⟨e, he, rfl⟩ := List.mem_map.1 hj
          obtain ⟨he, hb⟩ := List.mem_filter.1 he
          exact hall' e (Array.mem_toList_iff.1 he) hb
        have hilt : i < ops.size := (Array.getElem?_eq_some_iff.1 ho).1
        rcases hcov i hilt with h | h | h
        · exact absurd (hI.sup i hilt (by simpa using h)) (by rw [hun]; simp)
        · obtain ⟨o', d, hk⟩ := hokH i h
          obtain rfl : o' = o := by have := hk.op; rw [ho] at this; injection this with this; exact this.symm
          obtain ⟨pre, rest, hH⟩ := List.append_of_mem h
          obtain ⟨c, hc, hG⟩ := chain hI hrefl hord hokH hL0 hnd hnone hsub hstab hnt pre [] (i :: rest) a0 (by rw [hH]; rfl) (hG0 _ _) (by rw [← hH]; exact hS)
          rw [List.nil_append] at hG
          have hag := agree hI hH hord hL0 hk hG hp
          have hwant : isWanted ops o' c = isWanted ops o' a := wanted_agree (by rw [hG.tsize, hI.tsize]) hag
          have hexe := exec_agree hk.plain hag
          have hdst : dstOf ops i = d := by simp [dstOf, hk.op, hk.dst]
          have hcount : (H.filter fun j => !(listed.setIfInBounds i true).getD j true).length + T.length ≤ fuel := by
            have hlt : (H.filter fun j => !(listed.setIfInBounds i true).getD j true).length < (H.filter fun j => !listed.getD j true).length := by
              have hsub' : (H.filter fun j => !(listed.setIfInBounds i true).getD j true) = (H.filter fun j => !listed.getD j true).filter (fun j => j != i) := by
                rw [List.filter_filter]
                congr 1
                funext j
                simp only [Array.getD_eq_getD_getElem?, Array.getElem?_setIfInBounds]
                by_cases hji : i = j
                · subst hji
                  have : i < listed.size := by rw [hI.size]; exact hilt
                  simp [this]
                · have : (j != i) = true := by simp; exact fun e => hji e.symm
                  simp [hji, this]
              rw [hsub']
              have hmem : i ∈ H.filter fun j => !listed.getD j true := List.mem_filter.2 ⟨h, by simp [hun]⟩
              exact List.length_filter_lt_length_iff_exists.2 ⟨i, hmem, by simp⟩
            omega
          have hS' := hc o' hk.op
          unfold wpOp
          rw [hk.op]
          simp only
          cases hpi : post i with
          | some p =>
            rw [hpi] at hS'
            have hw := hwant.symm.trans hS'.1
            unfold isWanted at hw
            rw [if_pos hw]
            refine .inl ?_
            have hstep := hS'.2.1 w hI.rel (facts_ok hI hH hord hsub hops hL0 hstab hG hp (fun _ => ⟨rfl, hun⟩) (hrefl w)) (hI.tk i h hun)
            have hstep' : o'.wp P c w (fun a' w' => a'.defers = c.defers ∧ (fun v w' => (X.step R i w w' ∧ (∀ j, j ≠ i → tok j w → tok j w') ∧ (X.at i = true → X.pc (pv ops c i) w')) ∧ p v w') (got d a') w') NoQ := by
              simpa only [slotOf, hdst] using hstep
            refine Oper.wp_mono ?_ (wp_transfer (Q := Q) (b := a) (G := fun v w' => (X.step R i w w' ∧ (∀ j, j ≠ i → tok j w → tok j w') ∧ (X.at i = true → X.pc (pv ops c i) w')) ∧ p v w') hk.dst (fun x hx => by rw [hG.tsize]; exact Nat.lt_of_lt_of_le (hk.lt x hx) hnt) hexe hstep')
            rintro b' w' ⟨v, rfl, ⟨hR, hT, hPC⟩, hpv⟩
            have hval : ∀ j, X.at i = true → j ∈ predsOf ops i → slotOf ops c j = slotOf ops a j := fun j hat hj => by
              have hjH := hXH i h hat j hj
              have hpre : j ∈ pre := by
                rcases inOrder_spec pre L0 i rest (hH ▸ hord) j hj with h' | h'
                · exact absurd hjH (hL0 j h')
                · exact h'
              exact hG.val j hpre (getD_false_lt (hp j hj)).2
            have hRR : R w w' := by
              cases hat : X.at i with
              | true => exact hR.1 hat
              | false => exact hSR _ _ (hR.2 hat)
            exact ih _ _ _ (hI.step htrans hokH hstab hnt hnone h hk hun hp hRR hR.2 hpcS hXH hT (fun hat => by rw [← pv_eq (fun j hj => hval j hat hj)]; exact hPC hat) (by rw [hpi]; exact hpv)) hcount
          | none =>
            rw [hpi] at hS'
            obtain ⟨E, h1, h2, _⟩ := hS'
            split
            · rename_i hw
              refine .inl ?_
              have hrun := h1 (hwant.trans hw)
              have hv : ∀ w'', R w w'' → (execOp a.eval o').run P w'' = .ok (.value E) w'' := fun w'' hw'' => by
                rw [← hexe]
                exact hrun w'' (htrans _ _ _ hI.rel hw'') (facts_ok hI hH hord hsub hops hL0 hstab hG hp (fun h => by rw [(hnone i ‹_› hpi).1] at h; cases h) hw'')
              unfold Oper.wp
              rw [hv w (hrefl w), Oper.upon_value, hk.dst]
              exact ih _ _ _ (hI.step htrans hokH hstab hnt hnone h hk hun hp (hrefl w) (fun _ => hSrefl w) hpcS hXH (fun _ _ h => h) (fun hat => by rw [(hnone i ‹_› hpi).1] at hat; cases hat) (by rw [hpi]; exact ⟨fun _ => hv, fun h0 => (by rw [isWanted, hw] at h0; cases h0)⟩)) hcount
            · rename_i hw
              have hw' : isWanted ops o' a = false := by simpa [isWanted] using hw
              have hE : E = undef := h2 (hwant.trans hw')
              rw [hk.dst]
              exact ih _ _ _ (hI.step htrans hokH hstab hnt hnone h hk hun hp (hrefl w) (fun _ => hSrefl w) hpcS hXH (fun _ _ h => h) (fun hat => by rw [(hnone i ‹_› hpi).1] at hat; cases hat) (by rw [hpi]; exact ⟨fun h0 => (by rw [hw'] at h0; cases h0), fun _ => rfl⟩)) hcount
        · exfalso
          cases hT : T with
          | nil => rw [hT] at h; cases h
          | cons t T' =>
            rw [hT] at h
            by_cases hit : i = t
            · subst hit
              obtain ⟨j, hj, hju⟩ := hex
              have := leads_spec hI.closed hp ops.size j (hlead j hj i T' hT)
              rw [(getD_false_lt this).2] at hju
              cases hju
            · have hiT : i ∈ T' := by
                rcases List.mem_cons.1 h with h | h
                · exact absurd h hit
                · exact h
              obtain ⟨u, hu, hup⟩ := chainOk_spec t T' (hT ▸ hchain) i hiT
              have hul := getD_false_lt (hp u hup)
              have hun' := hTn u (hT ▸ hu)
              rcases hI.only u (by rw [← hI.size]; exact hul.1) hul.2 with h' | h'
              · rw [hun'.1] at h'; cases h'
              · exact hun'.2 h'

def postOf (ps : List (Nat × (Value → World → Prop))) (i : Nat) : Option (Value → World → Prop) :=
  match ps with
  | [] => none
  | (j, p) :: ps => if i = j then some p else postOf ps i
def AllStab (R : World → World → Prop) (w0 : World) : List (Nat × (Value → World → Prop)) → Prop
  | [] => True
  | (_, p) :: ps => (∀ v w w', R w0 w → R w w' → p v w → p v w') ∧ AllStab R w0 ps
theorem postOf_stab : ∀ (ps : List (Nat × (Value → World → Prop))), AllStab R w0 ps → ∀ i p, postOf ps i = some p → ∀ v w w', R w0 w → R w w' → p v w → p v w'
  | [], _, i, p, h => by cases h
  | (j, q) :: ps, hs, i, p, h => by
    simp only [postOf] at h
    split at h
    · injection h with h; subst h; exact hs.1
    · exact postOf_stab ps hs.2 i p h
/-- what is said of each operation's value is kept: by the others, and (but where 'tmp' names it) by c too -/
def AllStabX (X : Ext) (R : World → World → Prop) (w0 : World) : List (Nat × (Value → World → Prop)) → Prop
  | [] => True
  | (j, p) :: ps => (∀ v w w', R w0 w → ((X.tmp j = false ∧ X.at j = false) ∧ R w w' ∨ X.S w w') → p v w → p v w') ∧ AllStabX X R w0 ps
theorem postOf_stabX {X : Ext} : ∀ (ps : List (Nat × (Value → World → Prop))), AllStabX X R w0 ps → ∀ i p, postOf ps i = some p → ∀ v w w', R w0 w → ((X.tmp i = false ∧ X.at i = false) ∧ R w w' ∨ X.S w w') → p v w → p v w'
  | [], _, i, p, h => by cases h
  | (j, q) :: ps, hs, i, p, h => by
    simp only [postOf] at h
    split at h
    · rename_i e; subst e; injection h with h; subst h; exact hs.1
    · exact postOf_stabX ps hs.2 i p h
theorem stabX_of (R : World → World → Prop) (w0 : World) : ∀ (ps : List (Nat × (Value → World → Prop))), AllStab R w0 ps → AllStabX (Ext.none R) R w0 ps
  | [], _ => trivial
  | (_, _) :: ps, h => ⟨fun v w w' h0 h1 => h.1 v w w' h0 (h1.elim (·.2) id), stabX_of R w0 ps h.2⟩
theorem postOf_mem : ∀ (ps : List (Nat × (Value → World → Prop))) (i : Nat) (p : Value → World → Prop), postOf ps i = some p → i ∈ ps.map (·.1)
  | [], i, p, h => by cases h
  | (j, q) :: ps, i, p, h => by
    simp only [postOf] at h
    split at h
    · rename_i e; subst e; simp
    · have := postOf_mem ps i p h
      simp only [List.map_cons, List.mem_cons]; exact .inr this

theorem postOf_none : ∀ (ps : List (Nat × (Value → World → Prop))) (i : Nat), postOf ps i = none → i ∉ ps.map (·.1)
  | [], i, _ => by simp
  | (j, q) :: ps, i, h => by
    simp only [postOf] at h
    split at h
    · cases h
    · rename_i hne
      have := postOf_none ps i h
      simp only [List.map_cons, List.mem_cons, not_or]
      exact ⟨hne, this⟩

/-- an operation that meets the world as it was until it comes up itself -/
def tokOf (tk : Option (Nat × (World → Prop))) (i : Nat) (w : World) : Prop :=
  match tk with
  | none => True
  | some (c, t) => i = c → t w

/-- the chain, shut to unfolding: the rules below are its only openings -/
structure Sq (P : Program) (ops : Array Oper) (R : World → World → Prop) (X : Ext) (w0 : World) (ps : List (Nat × (Value → World → Prop))) (tk : Option (Nat × (World → Prop))) (Q : Exit → Act → World → Prop) (H T l : List Nat) (a : Act) : Prop where
  out : Seq P ops R X w0 (postOf ps) (tokOf tk) (EndT P ops R X w0 (postOf ps) Q H T) l a
section
variable {ps : List (Nat × (Value → World → Prop))} {tk : Option (Nat × (World → Prop))} {rest : List Nat} {a b : Act} {i : Nat} {d : Tmp} {op : Op} {ty : TypeId} {pos : String} {af : Array Edge} {gd : Option (Nat × Bool)}
theorem Sq.det (ho : ops[i]? = some ⟨some d, op, ty, pos, af, gd⟩) (hp : postOf ps i = none) (hw : isWanted ops ⟨some d, op, ty, pos, af, gd⟩ a = true) {E : Value}
    (h : ∀ w, R w0 w → Facts ops X (postOf ps) i a w → (execOp a.eval ⟨some d, op, ty, pos, af, gd⟩).run P w = .ok (.value E) w) (hb : a.put (some d) E = b)
    (k : Sq P ops R X w0 ps tk Q H T rest b) : Sq P ops R X w0 ps tk Q H T (i :: rest) a := ⟨Seq.det' ho hp hw h hb k.out⟩
theorem Sq.skip (ho : ops[i]? = some ⟨some d, op, ty, pos, af, gd⟩) (hp : postOf ps i = none) (hw : isWanted ops ⟨some d, op, ty, pos, af, gd⟩ a = false) (hb : a.put (some d) undef = b) (k : Sq P ops R X w0 ps tk Q H T rest b) : Sq P ops R X w0 ps tk Q H T (i :: rest) a := ⟨Seq.skip' ho hp hw hb k.out⟩
theorem Sq.any (ho : ops[i]? = some ⟨some d, op, ty, pos, af, gd⟩) {p : Value → World → Prop} (hp : postOf ps i = some p) (hw : isWanted ops ⟨some d, op, ty, pos, af, gd⟩ a = true)
    (h : ∀ w, R w0 w → Facts ops (Ext.none R) (postOf ps) i a w → (⟨some d, op, ty, pos, af, gd⟩ : Oper).wp P a w (fun a' w' => a'.defers = a.defers ∧ R w w' ∧ p (a'.tmps.getD d undef) w') NoQ) {f : Value → Act} (hb : ∀ v, a.put (some d) v = f v)
    (k : ∀ v, Sq P ops R (Ext.none R) w0 ps none Q H T rest (f v)) : Sq P ops R (Ext.none R) w0 ps none Q H T (i :: rest) a :=
  ⟨Seq.any' ho hp hw (fun w hw hf _ => Oper.wp_mono (fun a' w' hh => by
    have : slotOf ops a' i = a'.tmps.getD d undef := by simp [slotOf, got, dstOf, ho]
    rw [this]; exact ⟨hh.1, ⟨⟨fun h => (by cases h), fun _ => hh.2.1⟩, fun _ _ _ => trivial, fun h => (by first | (cases h; done) | (rw [hic] at h; cases h))⟩, hh.2.2⟩) (h w hw hf)) hb fun v => (k v).out⟩
theorem Sq.anyX (hic : X.at i = false) (ho : ops[i]? = some ⟨some d, op, ty, pos, af, gd⟩) {p : Value → World → Prop} (hp : postOf ps i = some p) (hw : isWanted ops ⟨some d, op, ty, pos, af, gd⟩ a = true)
    (h : ∀ w, R w0 w → Facts ops X (postOf ps) i a w → (⟨some d, op, ty, pos, af, gd⟩ : Oper).wp P a w (fun a' w' => a'.defers = a.defers ∧ X.S w w' ∧ p (a'.tmps.getD d undef) w') NoQ) {f : Value → Act} (hb : ∀ v, a.put (some d) v = f v)
    (k : ∀ v, Sq P ops R X w0 ps none Q H T rest (f v)) : Sq P ops R X w0 ps none Q H T (i :: rest) a :=
  ⟨Seq.any' ho hp hw (fun w hw hf _ => Oper.wp_mono (fun a' w' hh => by
    have : slotOf ops a' i = a'.tmps.getD d undef := by simp [slotOf, got, dstOf, ho]
    rw [this]; exact ⟨hh.1, ⟨⟨fun h => (by rw [hic] at h; cases h), fun _ => hh.2.1⟩, fun _ _ _ => trivial, fun h => (by first | (cases h; done) | (rw [hic] at h; cases h))⟩, hh.2.2⟩) (h w hw hf)) hb fun v => (k v).out⟩
theorem Sq.once {t : World → Prop} (ho : ops[i]? = some ⟨some d, op, ty, pos, af, gd⟩) {p : Value → World → Prop} (hp : postOf ps i = some p) (hw : isWanted ops ⟨some d, op, ty, pos, af, gd⟩ a = true)
    (h : ∀ w, R w0 w → Facts ops (Ext.none R) (postOf ps) i a w → t w → (⟨some d, op, ty, pos, af, gd⟩ : Oper).wp P a w (fun a' w' => a'.defers = a.defers ∧ R w w' ∧ p (a'.tmps.getD d undef) w') NoQ) {f : Value → Act} (hb : ∀ v, a.put (some d) v = f v)
    (k : ∀ v, Sq P ops R (Ext.none R) w0 ps (some (i, t)) Q H T rest (f v)) : Sq P ops R (Ext.none R) w0 ps (some (i, t)) Q H T (i :: rest) a :=
  ⟨Seq.any' ho hp hw (fun w hw hf ht => Oper.wp_mono (fun a' w' hh => by
    have : slotOf ops a' i = a'.tmps.getD d undef := by simp [slotOf, got, dstOf, ho]
    rw [this]; exact ⟨hh.1, ⟨⟨fun h => (by cases h), fun _ => hh.2.1⟩, fun j hj _ e => absurd e hj, fun h => (by cases h)⟩, hh.2.2⟩) (h w hw hf (ht rfl))) hb fun v => (k v).out⟩
theorem Sq.keep {t : World → Prop} {c : Nat} (hci : Nat.beq i c = false) (ho : ops[i]? = some ⟨some d, op, ty, pos, af, gd⟩) {p : Value → World → Prop} (hp : postOf ps i = some p) (hw : isWanted ops ⟨some d, op, ty, pos, af, gd⟩ a = true)
    (h : ∀ w, R w0 w → Facts ops (Ext.none R) (postOf ps) i a w → (⟨some d, op, ty, pos, af, gd⟩ : Oper).wp P a w (fun a' w' => a'.defers = a.defers ∧ R w w' ∧ (t w → t w') ∧ p (a'.tmps.getD d undef) w') NoQ) {f : Value → Act} (hb : ∀ v, a.put (some d) v = f v)
    (k : ∀ v, Sq P ops R (Ext.none R) w0 ps (some (c, t)) Q H T rest (f v)) : Sq P ops R (Ext.none R) w0 ps (some (c, t)) Q H T (i :: rest) a :=
  ⟨Seq.any' ho hp hw (fun w hw hf _ => Oper.wp_mono (fun a' w' hh => by
    have : slotOf ops a' i = a'.tmps.getD d undef := by simp [slotOf, got, dstOf, ho]
    rw [this]; exact ⟨hh.1, ⟨⟨fun h => (by cases h), fun _ => hh.2.1⟩, fun j _ h1 h2 => hh.2.2.1 (h1 h2), fun h => (by cases h)⟩, hh.2.2.2⟩) (h w hw hf)) hb fun v => (k v).out⟩
theorem Sq.store (hic : X.at i = true) (ho : ops[i]? = some ⟨none, op, ty, pos, af, gd⟩) (hp : postOf ps i = some fun _ _ => True) (hw : isWanted ops ⟨none, op, ty, pos, af, gd⟩ a = true)
    (h : ∀ w, R w0 w → Facts ops X (postOf ps) i a w → (⟨none, op, ty, pos, af, gd⟩ : Oper).wp P a w (fun a' w' => a'.defers = a.defers ∧ R w w' ∧ X.pc (pv ops a i) w') NoQ)
    (k : Sq P ops R X w0 ps none Q H T rest a) : Sq P ops R X w0 ps none Q H T (i :: rest) a :=
  ⟨Seq.any' (b := fun _ => a) ho hp hw (fun w hw hf _ => Oper.wp_mono (fun a' w' hh => by
    exact ⟨hh.1, ⟨⟨fun _ => hh.2.1, fun h => (by rw [hic] at h; cases h)⟩, fun _ _ _ => trivial, fun _ => hh.2.2⟩, trivial⟩) (h w hw hf)) (fun _ => rfl) fun _ => k.out⟩
theorem Sq.done (h : ∀ w, R w0 w → (∀ i ∈ H, ∀ p, postEnd X (postOf ps) i = some p → p (slotOf ops a i) w) → Q .normal a w) : Sq P ops R X w0 ps tk Q H [] [] a := ⟨by
  intro w hw hp _ l hl
  have : l = [] := by simpa using hl.symm
  subst this
  exact h w hw hp⟩
theorem Sq.doneX (h : ∀ w, R w0 w → (∀ i ∈ H, ∀ p, postEnd X (postOf ps) i = some p → p (slotOf ops a i) w) → (∀ i ∈ H, X.at i = true → X.pc (pv ops a i) w) → Q .normal a w) : Sq P ops R X w0 ps tk Q H [] [] a := ⟨by
  intro w hw hp hpc l hl
  have : l = [] := by simpa using hl.symm
  subst this
  exact h w hw hp hpc⟩
theorem Sq.tail (l : List Oper) (hl : T.mapM (fun t => ops[t]?) = some l) (h : ∀ w, R w0 w → (∀ i ∈ H, ∀ p, postEnd X (postOf ps) i = some p → p (slotOf ops a i) w) → wpList P ops Q l a w) : Sq P ops R X w0 ps tk Q H T [] a := ⟨by
  intro w hw hp _ l' hl'
  rw [hl] at hl'
  injection hl' with hl'
  subst hl'
  exact h w hw hp⟩
section
variable {ps : List (Nat × (Value → World → Prop))} {tk : Option (Nat × (World → Prop))} {a : Act} {t1 t2 : Nat} {d1 d2 : Option Tmp} {op1 op2 : Op} {ty1 ty2 : TypeId} {p1 p2 : String} {af1 af2 : Array Edge} {g1 g2 : Option (Nat × Bool)}
theorem Sq.tail1 (h1 : ops[t1]? = some ⟨d1, op1, ty1, p1, af1, g1⟩) (h : ∀ w, R w0 w → (∀ i ∈ H, ∀ p, postEnd X (postOf ps) i = some p → p (slotOf ops a i) w) → wpList P ops Q [⟨d1, op1, ty1, p1, af1, g1⟩] a w) : Sq P ops R X w0 ps tk Q H [t1] [] a :=
  Sq.tail _ (by simp [h1]) h
theorem Sq.tail2 (h1 : ops[t1]? = some ⟨d1, op1, ty1, p1, af1, g1⟩) (h2 : ops[t2]? = some ⟨d2, op2, ty2, p2, af2, g2⟩) (h : ∀ w, R w0 w → (∀ i ∈ H, ∀ p, postEnd X (postOf ps) i = some p → p (slotOf ops a i) w) → wpList P ops Q [⟨d1, op1, ty1, p1, af1, g1⟩, ⟨d2, op2, ty2, p2, af2, g2⟩] a w) : Sq P ops R X w0 ps tk Q H [t1, t2] [] a :=
  Sq.tail _ (by simp [h1, h2]) h
theorem Sq.tail3 {t1 t2 t3 : Nat} {d1 : Option Tmp} {op1 : Op} {ty1 : TypeId} {p1 : String} {af1 : Array Edge} {g1 : Option (Nat × Bool)} {d2 : Option Tmp} {op2 : Op} {ty2 : TypeId} {p2 : String} {af2 : Array Edge} {g2 : Option (Nat × Bool)} {d3 : Option Tmp} {op3 : Op} {ty3 : TypeId} {p3 : String} {af3 : Array Edge} {g3 : Option (Nat × Bool)} (h1 : ops[t1]? = some ⟨d1, op1, ty1, p1, af1, g1⟩) (h2 : ops[t2]? = some ⟨d2, op2, ty2, p2, af2, g2⟩) (h3 : ops[t3]? = some ⟨d3, op3, ty3, p3, af3, g3⟩) (h : ∀ w, R w0 w → (∀ i ∈ H, ∀ p, postEnd X (postOf ps) i = some p → p (slotOf ops a i) w) → wpList P ops Q [⟨d1, op1, ty1, p1, af1, g1⟩, ⟨d2, op2, ty2, p2, af2, g2⟩, ⟨d3, op3, ty3, p3, af3, g3⟩] a w) : Sq P ops R X w0 ps tk Q H [t1, t2, t3] [] a :=
  Sq.tail _ (by simp [h1, h2, h3]) h
theorem Sq.tail4 {t1 t2 t3 t4 : Nat} {d1 : Option Tmp} {op1 : Op} {ty1 : TypeId} {p1 : String} {af1 : Array Edge} {g1 : Option (Nat × Bool)} {d2 : Option Tmp} {op2 : Op} {ty2 : TypeId} {p2 : String} {af2 : Array Edge} {g2 : Option (Nat × Bool)} {d3 : Option Tmp} {op3 : Op} {ty3 : TypeId} {p3 : String} {af3 : Array Edge} {g3 : Option (Nat × Bool)} {d4 : Option Tmp} {op4 : Op} {ty4 : TypeId} {p4 : String} {af4 : Array Edge} {g4 : Option (Nat × Bool)} (h1 : ops[t1]? = some ⟨d1, op1, ty1, p1, af1, g1⟩) (h2 : ops[t2]? = some ⟨d2, op2, ty2, p2, af2, g2⟩) (h3 : ops[t3]? = some ⟨d3, op3, ty3, p3, af3, g3⟩) (h4 : ops[t4]? = some ⟨d4, op4, ty4, p4, af4, g4⟩) (h : ∀ w, R w0 w → (∀ i ∈ H, ∀ p, postEnd X (postOf ps) i = some p → p (slotOf ops a i) w) → wpList P ops Q [⟨d1, op1, ty1, p1, af1, g1⟩, ⟨d2, op2, ty2, p2, af2, g2⟩, ⟨d3, op3, ty3, p3, af3, g3⟩, ⟨d4, op4, ty4, p4, af4, g4⟩] a w) : Sq P ops R X w0 ps tk Q H [t1, t2, t3, t4] [] a :=
  Sq.tail _ (by simp [h1, h2, h3, h4]) h
theorem Sq.tail5 {t1 t2 t3 t4 t5 : Nat} {d1 : Option Tmp} {op1 : Op} {ty1 : TypeId} {p1 : String} {af1 : Array Edge} {g1 : Option (Nat × Bool)} {d2 : Option Tmp} {op2 : Op} {ty2 : TypeId} {p2 : String} {af2 : Array Edge} {g2 : Option (Nat × Bool)} {d3 : Option Tmp} {op3 : Op} {ty3 : TypeId} {p3 : String} {af3 : Array Edge} {g3 : Option (Nat × Bool)} {d4 : Option Tmp} {op4 : Op} {ty4 : TypeId} {p4 : String} {af4 : Array Edge} {g4 : Option (Nat × Bool)} {d5 : Option Tmp} {op5 : Op} {ty5 : TypeId} {p5 : String} {af5 : Array Edge} {g5 : Option (Nat × Bool)} (h1 : ops[t1]? = some ⟨d1, op1, ty1, p1, af1, g1⟩) (h2 : ops[t2]? = some ⟨d2, op2, ty2, p2, af2, g2⟩) (h3 : ops[t3]? = some ⟨d3, op3, ty3, p3, af3, g3⟩) (h4 : ops[t4]? = some ⟨d4, op4, ty4, p4, af4, g4⟩) (h5 : ops[t5]? = some ⟨d5, op5, ty5, p5, af5, g5⟩) (h : ∀ w, R w0 w → (∀ i ∈ H, ∀ p, postEnd X (postOf ps) i = some p → p (slotOf ops a i) w) → wpList P ops Q [⟨d1, op1, ty1, p1, af1, g1⟩, ⟨d2, op2, ty2, p2, af2, g2⟩, ⟨d3, op3, ty3, p3, af3, g3⟩, ⟨d4, op4, ty4, p4, af4, g4⟩, ⟨d5, op5, ty5, p5, af5, g5⟩] a w) : Sq P ops R X w0 ps tk Q H [t1, t2, t3, t4, t5] [] a :=
  Sq.tail _ (by simp [h1, h2, h3, h4, h5]) h
end
/-- a region that draws: operation i comes up first -/
theorem wpAny_take' {i : Nat} {d : Tmp} {op : Op} {ty : TypeId} {pos : String} {af : Array Edge} {gd : Option (Nat × Bool)} {fuel : Nat} {listed : Array Bool} {a b : Act} {w : World} {E : Value} (ho : ops[i]? = some ⟨some d, op, ty, pos, af, gd⟩)
    (hs : Region.noSelect ops = true) (hf : Region.free .any ops listed i = true) (hr : (Region.ready .any ops listed).contains i = true)
    (hQ : ∀ c a w, Q (.panic c) (a.put (some d) E) w → Q (.panic c) a w) (hw : isWanted ops ⟨some d, op, ty, pos, af, gd⟩ a = true) (h : ∀ w, (execOp a.eval ⟨some d, op, ty, pos, af, gd⟩).run P w = .ok (.value E) w) (hb : a.put (some d) E = b)
    (k : wpAny P .any ops Q fuel (listed.setIfInBounds i true) b w) : wpAny P .any ops Q (fuel + 1) listed a w :=
  wpAny_take ho hs hf hr hQ (.inl ⟨hw, h⟩) (by subst hb; exact k)
end

/-- a region that draws, from where the operations L0 have come up: those of H in whatever order, then the tail T -/
theorem wpAny_seqX {X : Ext} {tk : Option (Nat × (World → Prop))} {listed0 : Array Bool} (L0 H T : List Nat) (R : World → World → Prop) (hrefl : ∀ w, R w w) (hSrefl : ∀ w, X.S w w) (hSR : ∀ w w', X.S w w' → R w w')  (htrans : ∀ x y z, R x y → R y z → R x z) (ps : List (Nat × (Value → World → Prop))) {fuel : Nat}
    (hplan : planOk ops L0 listed0 H T nt = true) (hnt : nt ≤ a0.tmps.size) (hL0 : L0.all (fun j => decide (j < ops.size) && !H.contains j) = true) (hnd : decide H.Nodup = true) (hps : ((ps.map (·.1)).all (fun i => H.contains i) && H.all (fun i => (ps.map (·.1)).contains i || (dstOf ops i).isSome)) = true) (hfuel : H.length + T.length ≤ fuel)
    (hpcS : ∀ f w w', R w0 w → X.S w w' → X.pc f w → X.pc f w') (hXH : ∀ i ∈ H, X.at i = true → ∀ j ∈ predsOf ops i, j ∈ H) (hXc : ∀ i, X.at i = true → (ps.map (·.1)).contains i = true) (hstab : AllStabX X R w0 ps) (htk : ∀ i, tokOf tk i w0) (hS : Sq P ops R X w0 ps tk Q H T H a0) : wpAny P .any ops Q fuel listed0 a0 w0 := by
  unfold planOk at hplan
  simp only [Bool.and_eq_true, beq_iff_eq] at hplan
  obtain ⟨⟨⟨⟨⟨⟨⟨⟨⟨p1, p2⟩, p3⟩, p4⟩, p5⟩, p6⟩, p7⟩, p8⟩, p9⟩, p10⟩ := hplan
  have hokH' : ∀ i ∈ H, ∃ o d, OkH ops L0 H T nt i o d ∧ ∀ t T', T = t :: T' → leads ops H t ops.size i = true := fun i hi => okH_spec ((List.all_eq_true.1 p3) i hi)
  have hL0' : ∀ j ∈ L0, j < ops.size ∧ j ∉ H := fun j hj => by
    have := (List.all_eq_true.1 hL0) j hj
    simp only [Bool.and_eq_true, decide_eq_true_eq, Bool.not_eq_true'] at this
    exact ⟨this.1, by simpa using this.2⟩
  have hget : ∀ i, i < ops.size → listed0.getD i true = L0.contains i := fun i hi => by rw [p1]; simp [hi]
  obtain ⟨l, hl⟩ := Option.isSome_iff_exists.1 p10
  rw [Bool.and_eq_true] at hps
  obtain ⟨hps, hps2⟩ := hps
  have hnn : ∀ i ∈ H, postOf ps i = none → X.at i = false ∧ ∃ x, dstOf ops i = some x := fun i hi hn => by
    refine ⟨?_, ?_⟩
    · cases hat : X.at i with
      | false => rfl
      | true => exact absurd (by simpa using hXc i hat) (postOf_none ps i hn)
    have := (List.all_eq_true.1 hps2) i hi
    rw [Bool.or_eq_true] at this
    rcases this with h | h
    · exfalso
      have hm : i ∈ ps.map (·.1) := by simpa using h
      exact postOf_none ps i hn hm
    · exact Option.isSome_iff_exists.1 h
  refine seq_sound hrefl hSrefl hSR hpcS hXH htrans p4 (fun i hi => let ⟨o, d, h, _⟩ := hokH' i hi; ⟨o, d, h⟩) (fun i hi => let ⟨o, d, _, h⟩ := hokH' i hi; h) (fun j hj => (hL0' j hj).2) (fun j hj => (hL0' j hj).1)
    (fun t ht => by
      have := (List.all_eq_true.1 p6) t ht
      simp only [Bool.and_eq_true, Bool.not_eq_true'] at this
      exact ⟨this.1, by simpa using this.2⟩) p5
    (fun i hi => by
      have := (List.all_eq_true.1 p2) i (List.mem_range.2 hi)
      simp only [Bool.or_eq_true] at this
      rcases this with (h | h) | h
      · exact .inl (by simpa using h)
      · exact .inr (.inl (by simpa using h))
      · exact .inr (.inr (by simpa using h))) p7 hl (of_decide_eq_true hnd)
    (fun i hi hpn => hnn i hi hpn)
    (fun i p hp => by
      have := (List.all_eq_true.1 hps) i (postOf_mem ps i p hp)
      simpa using this) (postOf_stabX ps hstab) hnt hS.out fuel listed0 a0 w0 ?_ ?_
  · refine ⟨by rw [p1]; simp, fun i hi h => by rw [hget i hi]; exact h, fun i hi h => .inl (by rw [← hget i hi]; exact h), fun i hi h => ?_, hrefl _, fun i _ _ => htk i, rfl, rfl, fun _ _ => rfl, fun i hi h => ?_, fun i hi hat h => ?_⟩
    all_goals
      exfalso
      obtain ⟨o, d, hk, _⟩ := hokH' i hi
      rw [hget i (Array.getElem?_eq_some_iff.1 hk.op).1, hk.notL] at h
      cases h
  · exact Nat.le_trans (Nat.add_le_add_right (List.length_filter_le _ _) _) hfuel

theorem wpAny_seqT {tk : Option (Nat × (World → Prop))} {listed0 : Array Bool} (L0 H T : List Nat) (R : World → World → Prop) (hrefl : ∀ w, R w w) (htrans : ∀ x y z, R x y → R y z → R x z) (ps : List (Nat × (Value → World → Prop))) {fuel : Nat}
    (hplan : planOk ops L0 listed0 H T nt = true) (hnt : nt ≤ a0.tmps.size) (hL0 : L0.all (fun j => decide (j < ops.size) && !H.contains j) = true) (hnd : decide H.Nodup = true) (hps : ((ps.map (·.1)).all (fun i => H.contains i) && H.all (fun i => (ps.map (·.1)).contains i || (dstOf ops i).isSome)) = true) (hfuel : H.length + T.length ≤ fuel)
    (hstab : AllStab R w0 ps) (htk : ∀ i, tokOf tk i w0) (hS : Sq P ops R (Ext.none R) w0 ps tk Q H T H a0) : wpAny P .any ops Q fuel listed0 a0 w0 :=
  wpAny_seqX (X := Ext.none R) L0 H T R hrefl hrefl (fun _ _ h => h) htrans ps hplan hnt hL0 hnd hps hfuel (fun _ _ _ _ _ _ => trivial) (fun _ _ h => by cases h) (fun _ h => by cases h) (stabX_of R w0 ps hstab) htk hS

theorem wpAny_seq {listed0 : Array Bool} (L0 H T : List Nat) (R : World → World → Prop) (hrefl : ∀ w, R w w) (htrans : ∀ x y z, R x y → R y z → R x z) (ps : List (Nat × (Value → World → Prop))) {fuel : Nat}
    (hplan : planOk ops L0 listed0 H T nt = true) (hnt : nt ≤ a0.tmps.size) (hL0 : L0.all (fun j => decide (j < ops.size) && !H.contains j) = true) (hnd : decide H.Nodup = true) (hps : ((ps.map (·.1)).all (fun i => H.contains i) && H.all (fun i => (ps.map (·.1)).contains i || (dstOf ops i).isSome)) = true) (hfuel : H.length + T.length ≤ fuel)
    (hstab : AllStab R w0 ps) (hS : Sq P ops R (Ext.none R) w0 ps none Q H T H a0) : wpAny P .any ops Q fuel listed0 a0 w0 :=
  wpAny_seqT (tk := none) L0 H T R hrefl htrans ps hplan hnt hL0 hnd hps hfuel hstab (fun _ => trivial) hS

/-- a region that draws, all its operations in whatever order (but a tail) -/
theorem wp_region_seq {id : Nat} (hm : P.follows .mixedOrders = true) (H T : List Nat) (R : World → World → Prop) (hrefl : ∀ w, R w w) (htrans : ∀ x y z, R x y → R y z → R x z) (ps : List (Nat × (Value → World → Prop)))
    (hplan : planOk ops [] (Array.replicate ops.size false) H T nt = true) (hnt : nt ≤ a0.tmps.size) (hnd : decide H.Nodup = true) (hps : ((ps.map (·.1)).all (fun i => H.contains i) && H.all (fun i => (ps.map (·.1)).contains i || (dstOf ops i).isSome)) = true) (hfuel : H.length + T.length ≤ ops.size)
    (hstab : AllStab R w0.drew ps) (hS : Sq P ops R (Ext.none R) w0.drew ps none Q H T H a0) : (Code.region id ops true).wp P Q a0 w0 :=
  wp_region_any hm (wpAny_seq (w0 := w0.drew) [] H T R hrefl htrans ps hplan hnt rfl hnd hps hfuel hstab hS)

/-- the same, with one operation that meets the world as it was until it comes up -/
theorem wp_region_seqT {id : Nat} (hm : P.follows .mixedOrders = true) (H T : List Nat) (R : World → World → Prop) (hrefl : ∀ w, R w w) (htrans : ∀ x y z, R x y → R y z → R x z) (ps : List (Nat × (Value → World → Prop)))
    (hplan : planOk ops [] (Array.replicate ops.size false) H T nt = true) (hnt : nt ≤ a0.tmps.size) (hnd : decide H.Nodup = true) (hps : ((ps.map (·.1)).all (fun i => H.contains i) && H.all (fun i => (ps.map (·.1)).contains i || (dstOf ops i).isSome)) = true) (hfuel : H.length + T.length ≤ ops.size)
    (hstab : AllStab R w0.drew ps) (c : Nat) (t : World → Prop) (ht : t w0.drew) (hS : Sq P ops R (Ext.none R) w0.drew ps (some (c, t)) Q H T H a0) : (Code.region id ops true).wp P Q a0 w0 :=
  wp_region_any hm (wpAny_seqT (tk := some (c, t)) (w0 := w0.drew) [] H T R hrefl htrans ps hplan hnt rfl hnd hps hfuel hstab (fun _ _ => ht) hS)

/-- a region that draws, one of whose operations (c: a store, most often) writes more widely than the others; what 'tmp' names is known until c comes up -/
theorem wp_region_seqX {id : Nat} (hm : P.follows .mixedOrders = true) (X : Ext) (H T : List Nat) (R : World → World → Prop) (hrefl : ∀ w, R w w) (hSrefl : ∀ w, X.S w w) (hSR : ∀ w w', X.S w w' → R w w') (htrans : ∀ x y z, R x y → R y z → R x z) (ps : List (Nat × (Value → World → Prop)))
    (hplan : planOk ops [] (Array.replicate ops.size false) H T nt = true) (hnt : nt ≤ a0.tmps.size) (hnd : decide H.Nodup = true) (hps : ((ps.map (·.1)).all (fun i => H.contains i) && H.all (fun i => (ps.map (·.1)).contains i || (dstOf ops i).isSome)) = true) (hfuel : H.length + T.length ≤ ops.size)
    (hpcS : ∀ f w w', R w0.drew w → X.S w w' → X.pc f w → X.pc f w') (hXc : ∀ i, X.at i = true → (ps.map (·.1)).contains i = true) (hstab : AllStabX X R w0.drew ps) (hS : Sq P ops R X w0.drew ps none Q H T H a0) : (Code.region id ops true).wp P Q a0 w0 :=
  by
  have hXH : ∀ i ∈ H, X.at i = true → ∀ j ∈ predsOf ops i, j ∈ H := fun i hi _ j hj => by
    have hp := hplan
    unfold planOk at hp
    simp only [Bool.and_eq_true] at hp
    obtain ⟨⟨⟨⟨⟨⟨⟨⟨⟨_, _⟩, _⟩, p4⟩, _⟩, _⟩, _⟩, _⟩, _⟩, _⟩ := hp
    obtain ⟨pre, rest, hH⟩ := List.append_of_mem hi
    rcases inOrder_spec pre [] i rest (hH ▸ p4) j hj with h | h
    · cases h
    · rw [hH]; simp [h]
  exact wp_region_any hm (wpAny_seqX (tk := none) (w0 := w0.drew) [] H T R hrefl hSrefl hSR htrans ps hplan hnt rfl hnd hps hfuel hpcS hXH hXc hstab (fun _ => trivial) hS)

end
/-- the relation that most regions keep: new blocks alone -/
def Rb (w w' : World) : Prop := Below w.heap.size w w'
theorem Rb.refl (w : World) : Rb w w := Below.refl _ _
theorem Rb.trans (x y z : World) (h : Rb x y) (k : Rb y z) : Rb x z := h.trans' k

/-! ### a variable that such a region lays and stores: blocks from B on, of type T and a form F, may turn; nothing else -/
def Rv (B : Nat) (T : TypeId) (F : Array Value → Prop) (w w' : World) : Prop :=
  B ≤ w.heap.size → w'.os = w.os ∧ w'.tape = w.tape ∧ w'.output = w.output ∧ w.heap.size ≤ w'.heap.size ∧ ∀ j, j < w.heap.size → (j < B ∨ ¬ ∃ cs, F cs ∧ w.heap[j]? = some (.cells cs T (0, 0))) → w'.heap[j]? = w.heap[j]?
section
variable {B : Nat} {T : TypeId} {F : Array Value → Prop} {w w' : World}
theorem Rv.refl (w : World) : Rv B T F w w := fun _ => ⟨rfl, rfl, rfl, Nat.le_refl _, fun _ _ _ => rfl⟩
theorem Rv.trans (x y z : World) (h : Rv B T F x y) (k : Rv B T F y z) : Rv B T F x z := fun hB => by
  obtain ⟨h1, h2, h3, h4, h5⟩ := h hB
  obtain ⟨k1, k2, k3, k4, k5⟩ := k (Nat.le_trans hB h4)
  refine ⟨k1.trans h1, k2.trans h2, k3.trans h3, Nat.le_trans h4 k4, fun j hj hn => ?_⟩
  have e := h5 j hj hn
  exact (k5 j (Nat.lt_of_lt_of_le hj h4) (hn.imp id fun hh => by rw [e]; exact hh)).trans e
theorem Rv.of_rb (w w' : World) (h : Rb w w') : Rv B T F w w' := fun _ => ⟨h.os, h.tape, h.output, h.size, fun j hj _ => h.block j hj⟩
theorem Rv.below (h : Rv B T F w w') (hB : B ≤ w.heap.size) : Below B w w' := by
  obtain ⟨h1, h2, h3, h4, h5⟩ := h hB
  exact ⟨h1, h2, h3, h4, fun j hj => h5 j (Nat.lt_of_lt_of_le hj hB) (.inl hj)⟩
theorem Rv.blk {g : Nat} {t : TypeId} {cs : Array Value} (h : Rv B T F w w') (hB : B ≤ w.heap.size) (hb : Blk w g t cs) (hn : t ≠ T ∨ ¬ F cs) : Blk w' g t cs := by
  obtain ⟨_, _, _, _, h5⟩ := h hB
  have hlt := hb.lt
  unfold Blk at hb ⊢
  rw [h5 g hlt (.inr fun ⟨c, hF, hc⟩ => by
    rw [hb] at hc
    injection hc with hc
    injection hc with e1 e2
    rcases hn with hn | hn
    · exact hn e2
    · exact hn (e1 ▸ hF))]
  exact hb
theorem Rv.own {base e size n : Nat} {v : Value} {xs : List Value} (h : Rv B T F w w') (hB : B ≤ w.heap.size) (ho : w.ownsRow base e size v n xs) (hn : e ≠ T) : w'.ownsRow base e size v n xs := by
  refine ⟨ho.1, ?_⟩
  rcases ho.2 with h0 | ⟨g, cap, cur, rfl, hb, hg, rest⟩
  · exact .inl h0
  · have : Blk w' g e cur := h.blk hB (show Blk w g e cur from hg) (.inl hn)
    exact .inr ⟨g, cap, cur, rfl, hb, this, rest⟩
theorem Rv.store {k : Nat} {cs : Array Value} (hb : Blk w k T cs) (hF : F cs) (hk : B ≤ k) (hg : w.grownBy w' (some k)) : Rv B T F w w' := fun _ =>
  ⟨hg.os, hg.tape, hg.output, hg.size, fun j hj hn => hg.block j hj fun e => by
    injection e with e
    subst e
    rcases hn with hn | hn
    · omega
    · exact hn ⟨cs, hF, hb⟩⟩
theorem Rv.rd {g size n : Nat} {A : Option Addr} {xs : List Value} (h : Rv B T F w w') (hB : B ≤ w.heap.size) (hr : Rd w g size A n xs) (hn : 0 < n → ¬ ∃ cs, F cs ∧ w.heap[g]? = some (.cells cs T (0, 0))) : Rd w' g size A n xs := by
  rcases Nat.eq_zero_or_pos n with h0 | h0
  · subst h0
    have : xs = [] := List.eq_nil_of_length_eq_zero (by simpa using hr.1)
    subst this; exact Rd.nil _ _ _ _
  · obtain ⟨_, _, _, h4, h5⟩ := h hB
    exact hr.keep (fun hg => h5 g hg (.inr (hn h0))) h4
end
end Go.Proofs.Ytnddahajfcmkiaa
