/- The window's data as cells: identities, offers, results, operations; Go's '==' on them. Conditions: none. -/
import Derived.Test.YtbcejdmgdgghfaaEq
namespace Go.Proofs.Ytbcejdmgdgghfaa
set_option linter.unusedSimpArgs false
set_option linter.unusedVariables false
set_option linter.unnecessarySimpa false
open Go.RowKit

structure Id where
  bytes : List UInt8
  len : bytes.length = 32
deriving DecidableEq
@[ext] theorem Id.ext' {a b : Id} (h : a.bytes = b.bytes) : a = b := by cases a; cases b; simp_all

def idc (i : Id) : List Value := i.bytes.map fun b => .int .u8 b.toNat
def idn (i : Id) : List Int := i.bytes.map fun b => (b.toNat : Int)
theorem idc_eq (i : Id) : idc i = (idn i).map (Value.int .u8) := by simp [idc, idn]
theorem idc_len (i : Id) : (idc i).length = 32 := by simp [idc, i.len]
theorem idn_len (i : Id) : (idn i).length = 32 := by simp [idn, i.len]
theorem idn_inj {a b : Id} (h : idn a = idn b) : a = b := by
  apply Id.ext'
  have key : ∀ l m : List UInt8, l.map (fun b => (b.toNat : Int)) = m.map (fun b => (b.toNat : Int)) → l = m := by
    intro l
    induction l with
    | nil => intro m hm; cases m with
      | nil => rfl
      | cons y m => simp at hm
    | cons x l ih => intro m hm; cases m with
      | nil => simp at hm
      | cons y m =>
        simp only [List.map_cons, List.cons.injEq] at hm
        rw [ih m hm.2, UInt8.toNat_inj.1 (Int.ofNat_inj.1 hm.1)]
  exact key _ _ h

/-- an offer: of the window's package (type 81) and of the model (type 72), with the same cells -/
structure Ofr where
  id : Id
  size : Int
  outcome : Int
deriving DecidableEq
def ofrc (o : Ofr) : List Value := idc o.id ++ [.int .i64 o.size, .int .i64 o.outcome]
theorem ofrc_len (o : Ofr) : (ofrc o).length = 34 := by simp [ofrc, idc_len]
theorem ofrc_id (o : Ofr) (j : Nat) (hj : j < 32) : (ofrc o)[j]? = (idc o.id)[j]? := by
  rw [ofrc, List.getElem?_append_left (by rw [idc_len]; exact hj)]
theorem ofrc_32 (o : Ofr) : (ofrc o)[32]? = some (.int .i64 o.size) := by
  rw [ofrc, List.getElem?_append_right (by rw [idc_len]; omega), idc_len]; rfl
theorem ofrc_33 (o : Ofr) : (ofrc o)[33]? = some (.int .i64 o.outcome) := by
  rw [ofrc, List.getElem?_append_right (by rw [idc_len]; omega), idc_len]; rfl
theorem ofrc_take (o : Ofr) : (ofrc o).take 32 = idc o.id := by
  rw [ofrc, List.take_append_of_le_length (by rw [idc_len]; omega), List.take_of_length_le (by rw [idc_len]; omega)]
theorem ofrc_extract (o : Ofr) : (ofrc o).toArray.extract 0 32 = (idc o.id).toArray := by
  simp [ofrc_take]

structure Res where
  id : Id
  outcome : Int
deriving DecidableEq
def resc (o : Res) : List Value := idc o.id ++ [.int .i64 o.outcome]
theorem resc_len (o : Res) : (resc o).length = 33 := by simp [resc, idc_len]
theorem resc_id (o : Res) (j : Nat) (hj : j < 32) : (resc o)[j]? = (idc o.id)[j]? := by
  rw [resc, List.getElem?_append_left (by rw [idc_len]; exact hj)]
theorem resc_32 (o : Res) : (resc o)[32]? = some (.int .i64 o.outcome) := by
  rw [resc, List.getElem?_append_right (by rw [idc_len]; omega), idc_len]; rfl
theorem resc_extract (o : Res) : (resc o).toArray.extract 0 32 = (idc o.id).toArray := by
  simp [resc, List.take_append_of_le_length (show 32 ≤ (idc o.id).length by rw [idc_len]; omega), List.take_of_length_le (show (idc o.id).length ≤ 32 by rw [idc_len]; omega)]

structure Op' where
  kind : UInt8
  id : Id
  n : Int
def opc (o : Op') : List Value := .int .u8 o.kind.toNat :: (idc o.id ++ [.int .i64 o.n])
theorem opc_len (o : Op') : (opc o).length = 34 := by simp [opc, idc_len]
theorem opc_0 (o : Op') : (opc o)[0]? = some (.int .u8 o.kind.toNat) := rfl
theorem opc_id (o : Op') (j : Nat) (hj : j < 32) : (opc o)[1 + j]? = (idc o.id)[j]? := by
  rw [opc, Nat.add_comm, List.getElem?_cons_succ, List.getElem?_append_left (by rw [idc_len]; exact hj)]
theorem opc_33 (o : Op') : (opc o)[33]? = some (.int .i64 o.n) := by
  rw [opc, List.getElem?_cons_succ, List.getElem?_append_right (by rw [idc_len]; omega), idc_len]; rfl

theorem oneCell_idc (i : Id) : ∀ u ∈ idc i, u.oneCell' = true := by
  intro u hu
  obtain ⟨b, _, rfl⟩ := List.mem_map.1 hu
  rfl
theorem oneCell_ofrc (o : Ofr) : ∀ u ∈ ofrc o, u.oneCell' = true := by
  intro u hu
  rcases List.mem_append.1 hu with h | h
  · exact oneCell_idc _ u h
  · simp at h; rcases h with rfl | rfl <;> rfl
theorem oneCell_resc (o : Res) : ∀ u ∈ resc o, u.oneCell' = true := by
  intro u hu
  rcases List.mem_append.1 hu with h | h
  · exact oneCell_idc _ u h
  · simp at h; subst h; rfl
theorem oneCell_opc (o : Op') : ∀ u ∈ opc o, u.oneCell' = true := by
  intro u hu
  rcases List.mem_cons.1 hu with h | h
  · subst h; rfl
  · rcases List.mem_append.1 h with h | h
    · exact oneCell_idc _ u h
    · simp at h; subst h; rfl
theorem oneCell_flat {α : Type} {f : α → List Value} (hf : ∀ x, ∀ u ∈ f x, u.oneCell' = true) (l : List α) : ∀ u ∈ l.flatMap f, u.oneCell' = true := by
  intro u hu
  obtain ⟨x, _, h⟩ := List.mem_flatMap.1 hu
  exact hf x u h

/-! ### '==' -/
theorem size37 : (Try.prog.info? 37).map (·.size) = some 32 := by kernel_rfl
theorem size81 : (Try.prog.info? 81).map (·.size) = some 34 := by kernel_rfl
theorem size72 : (Try.prog.info? 72).map (·.size) = some 34 := by kernel_rfl
theorem size43 : (Try.prog.info? 43).map (·.size) = some 33 := by kernel_rfl
theorem size51 : (Try.prog.info? 51).map (·.size) = some 34 := by kernel_rfl
theorem size5 : (Try.prog.info? 5).map (·.size) = some 1 := by kernel_rfl

theorem eq_ids (w : World) (d : Nat) (a b : Id) : (Op.equalIn (d + 2) 37 (.agg (idc a).toArray) (.agg (idc b).toArray)).run Try.prog w = .ok (decide (a = b)) w := by
  rw [idc_eq, idc_eq, run_equalIn_array w d 32 37 5 .u8 (idn a) (idn b) Try.underlying37 Try.underlying5 size5 (idn_len a) (idn_len b)]
  congr 1
  rw [Bool.eq_iff_iff]
  simp only [beq_iff_eq, decide_eq_true_eq]
  exact ⟨idn_inj, fun h => by rw [h]⟩

theorem part_id (w : World) (cs : Array Value) (i : Id) (h : cs.extract 0 32 = (idc i).toArray) : (part 37 cs 0).run Try.prog w = .ok (.agg (idc i).toArray) w := by
  have hagg : (isAgg 37).run Try.prog w = .ok true w := by
    unfold isAgg
    rw [Sem.run_bind, run_underlying Try.underlying37 w]
    rfl
  have hs : (sizeOf 37).run Try.prog w = .ok 32 w := by
    have := size37
    cases hq : Try.prog.info? 37 with
    | none => simp [hq] at this
    | some i => simp [hq] at this; simp [sizeOf, typeInfo, hq, this]
  simp only [part, Sem.run_bind, hagg, Result.andThen_ok, if_true, hs, Nat.zero_add, h, Sem.run_pure]
theorem part_int (w : World) (cs : Array Value) (j : Nat) (v : Value) (h : cs[j]? = some v) : (part 3 cs j).run Try.prog w = .ok v w := by
  have hagg : (isAgg 3).run Try.prog w = .ok false w := by
    unfold isAgg
    rw [Sem.run_bind, run_underlying Try.underlying3 w]
    rfl
  simp [part, Sem.run_bind, hagg, h]

theorem eqFields3 {P : Program} (w : World) (d : Nat) (f0 f1 f2 : Field) (xs ys : Array Value) (x0 y0 x1 y1 x2 y2 : Value) (r0 r1 r2 : Bool) (n0 : (f0.name == "_") = false) (n1 : (f1.name == "_") = false) (n2 : (f2.name == "_") = false)
    (px0 : (part f0.type xs f0.offset).run P w = .ok x0 w) (py0 : (part f0.type ys f0.offset).run P w = .ok y0 w) (e0 : (Op.equalIn d f0.type x0 y0).run P w = .ok r0 w)
    (px1 : (part f1.type xs f1.offset).run P w = .ok x1 w) (py1 : (part f1.type ys f1.offset).run P w = .ok y1 w) (e1 : (Op.equalIn d f1.type x1 y1).run P w = .ok r1 w)
    (px2 : (part f2.type xs f2.offset).run P w = .ok x2 w) (py2 : (part f2.type ys f2.offset).run P w = .ok y2 w) (e2 : (Op.equalIn d f2.type x2 y2).run P w = .ok r2 w) :
    (Op.eqFields d xs ys [f0, f1, f2]).run P w = .ok (r0 && (r1 && r2)) w := by
  have m0 : f0.name ≠ "_" := by simpa using n0
  have m1 : f1.name ≠ "_" := by simpa using n1
  have m2 : f2.name ≠ "_" := by simpa using n2
  cases r0 <;> cases r1 <;> cases r2 <;> simp [Op.eqFields, m0, m1, m2, px0, py0, e0, px1, py1, e1, px2, py2, e2]
theorem eqFields2 {P : Program} (w : World) (d : Nat) (f0 f1 : Field) (xs ys : Array Value) (x0 y0 x1 y1 : Value) (r0 r1 : Bool) (n0 : (f0.name == "_") = false) (n1 : (f1.name == "_") = false)
    (px0 : (part f0.type xs f0.offset).run P w = .ok x0 w) (py0 : (part f0.type ys f0.offset).run P w = .ok y0 w) (e0 : (Op.equalIn d f0.type x0 y0).run P w = .ok r0 w)
    (px1 : (part f1.type xs f1.offset).run P w = .ok x1 w) (py1 : (part f1.type ys f1.offset).run P w = .ok y1 w) (e1 : (Op.equalIn d f1.type x1 y1).run P w = .ok r1 w) :
    (Op.eqFields d xs ys [f0, f1]).run P w = .ok (r0 && r1) w := by
  have m0 : f0.name ≠ "_" := by simpa using n0
  have m1 : f1.name ≠ "_" := by simpa using n1
  cases r0 <;> cases r1 <;> simp [Op.eqFields, m0, m1, px0, py0, e0, px1, py1, e1]
theorem eq_int3 {P : Program} (h : P.underlying 3 = some (.int .i64)) (w : World) (d : Nat) (a b : Int) : (Op.equalIn (d + 1) 3 (.int .i64 a) (.int .i64 b)).run P w = .ok (a == b) w := run_equalIn_int w d 3 .i64 .i64 a b h
theorem eq_ofr (w : World) (d : Nat) (a b : Ofr) (T : TypeId) (hT : T = 81 ∨ T = 72) : (Op.equalIn (d + 3) T (.agg (ofrc a).toArray) (.agg (ofrc b).toArray)).run Try.prog w = .ok (decide (a = b)) w := by
  have hm : Try.prog.underlying T = some (.struct (Try.prog.fieldsOf T)) ∧ Try.prog.stoodInHeld T = false ∧ (Try.prog.fieldsOf T).toList.map (fun f => (f.name == "_", f.type, f.offset)) = [(false, 37, 0), (false, 3, 32), (false, 3, 33)] := by
    rcases hT with rfl | rfl
    · exact ⟨by kernel_rfl, by kernel_rfl, by kernel_rfl⟩
    · exact ⟨by kernel_rfl, by kernel_rfl, by kernel_rfl⟩
  obtain ⟨h1, h2, h3⟩ := hm
  rw [run_equalIn_struct w (d + 2) T _ _ h1 h2]
  generalize (Try.prog.fieldsOf T).toList = fs at h3
  obtain ⟨f0, r0, rfl, e0, h3⟩ := List.map_eq_cons_iff.1 h3
  obtain ⟨f1, r1, rfl, e1, h3⟩ := List.map_eq_cons_iff.1 h3
  obtain ⟨f2, r2, rfl, e2, h3⟩ := List.map_eq_cons_iff.1 h3
  obtain rfl := List.map_eq_nil_iff.1 h3
  simp only [Prod.mk.injEq] at e0 e1 e2
  obtain ⟨n0, t0, o0⟩ := e0
  obtain ⟨n1, t1, o1⟩ := e1
  obtain ⟨n2, t2, o2⟩ := e2
  have a32 := part_int w (ofrc a).toArray 32 _ (by rw [List.getElem?_toArray]; exact ofrc_32 a)
  have b32 := part_int w (ofrc b).toArray 32 _ (by rw [List.getElem?_toArray]; exact ofrc_32 b)
  have a33 := part_int w (ofrc a).toArray 33 _ (by rw [List.getElem?_toArray]; exact ofrc_33 a)
  have b33 := part_int w (ofrc b).toArray 33 _ (by rw [List.getElem?_toArray]; exact ofrc_33 b)
  rw [eqFields3 w (d + 2) f0 f1 f2 _ _ _ _ _ _ _ _ _ _ _ n0 n1 n2 (by rw [t0, o0]; exact part_id w _ _ (ofrc_extract a)) (by rw [t0, o0]; exact part_id w _ _ (ofrc_extract b)) (by rw [t0]; exact eq_ids w d _ _)
    (by rw [t1, o1]; exact a32) (by rw [t1, o1]; exact b32) (by rw [t1]; exact eq_int3 Try.underlying3 w (d + 1) _ _)
    (by rw [t2, o2]; exact a33) (by rw [t2, o2]; exact b33) (by rw [t2]; exact eq_int3 Try.underlying3 w (d + 1) _ _)]
  congr 1
  rw [Bool.eq_iff_iff]
  simp only [Bool.and_eq_true, decide_eq_true_eq, beq_iff_eq]
  constructor
  · intro h; cases a; cases b; simp_all
  · intro h; subst h; exact ⟨rfl, rfl, rfl⟩
theorem eq_res (w : World) (d : Nat) (a b : Res) : (Op.equalIn (d + 3) 43 (.agg (resc a).toArray) (.agg (resc b).toArray)).run Try.prog w = .ok (decide (a = b)) w := by
  have h1 : Try.prog.underlying 43 = some (.struct (Try.prog.fieldsOf 43)) := by kernel_rfl
  have h2 : Try.prog.stoodInHeld 43 = false := by kernel_rfl
  have h3 : (Try.prog.fieldsOf 43).toList.map (fun f => (f.name == "_", f.type, f.offset)) = [(false, 37, 0), (false, 3, 32)] := by kernel_rfl
  rw [run_equalIn_struct w (d + 2) 43 _ _ h1 h2]
  generalize (Try.prog.fieldsOf 43).toList = fs at h3
  obtain ⟨f0, r0, rfl, e0, h3⟩ := List.map_eq_cons_iff.1 h3
  obtain ⟨f1, r1, rfl, e1, h3⟩ := List.map_eq_cons_iff.1 h3
  obtain rfl := List.map_eq_nil_iff.1 h3
  simp only [Prod.mk.injEq] at e0 e1
  obtain ⟨n0, t0, o0⟩ := e0
  obtain ⟨n1, t1, o1⟩ := e1
  have a32 := part_int w (resc a).toArray 32 _ (by rw [List.getElem?_toArray]; exact resc_32 a)
  have b32 := part_int w (resc b).toArray 32 _ (by rw [List.getElem?_toArray]; exact resc_32 b)
  rw [eqFields2 w (d + 2) f0 f1 _ _ _ _ _ _ _ _ n0 n1 (by rw [t0, o0]; exact part_id w _ _ (resc_extract a)) (by rw [t0, o0]; exact part_id w _ _ (resc_extract b)) (by rw [t0]; exact eq_ids w d _ _)
    (by rw [t1, o1]; exact a32) (by rw [t1, o1]; exact b32) (by rw [t1]; exact eq_int3 Try.underlying3 w (d + 1) _ _)]
  congr 1
  rw [Bool.eq_iff_iff]
  simp only [Bool.and_eq_true, decide_eq_true_eq, beq_iff_eq]
  constructor
  · intro h; cases a; cases b; simp_all
  · intro h; subst h; exact ⟨rfl, rfl⟩
theorem run_eql_ids (w : World) (a b : Id) : (binOp .eql 37 (.agg (idc a).toArray) (.agg (idc b).toArray)).run Try.prog w = .ok (.bool (decide (a = b))) w := by
  rw [run_eql_struct, eq_ids w 9998 a b]; rfl
theorem run_neq_ids (w : World) (a b : Id) : (binOp .neq 37 (.agg (idc a).toArray) (.agg (idc b).toArray)).run Try.prog w = .ok (.bool (!decide (a = b))) w := by
  rw [run_neq_struct, eq_ids w 9998 a b]; rfl
theorem run_neq_ofr (w : World) (a b : Ofr) : (binOp .neq 81 (.agg (ofrc a).toArray) (.agg (ofrc b).toArray)).run Try.prog w = .ok (.bool (!decide (a = b))) w := by
  rw [run_neq_struct, eq_ofr w 9997 a b 81 (.inl rfl)]; rfl
theorem run_eql_ofr (w : World) (a b : Ofr) : (binOp .eql 72 (.agg (ofrc a).toArray) (.agg (ofrc b).toArray)).run Try.prog w = .ok (.bool (decide (a = b))) w := by
  rw [run_eql_struct, eq_ofr w 9997 a b 72 (.inr rfl)]; rfl
theorem run_neq_res (w : World) (a b : Res) : (binOp .neq 43 (.agg (resc a).toArray) (.agg (resc b).toArray)).run Try.prog w = .ok (.bool (!decide (a = b))) w := by
  rw [run_neq_struct, eq_res w 9997 a b]; rfl
end Go.Proofs.Ytbcejdmgdgghfaa
