/- Contract of the document's example (known). -/
import Derived.Test.YtbcejdmgdgghfaaWl
namespace Go.Proofs.Ytbcejdmgdgghfaa
set_option linter.unusedSimpArgs false
set_option linter.unusedVariables false
set_option linter.unnecessarySimpa false
open Go.RowKit

def idOf (n : UInt8) : Id := ⟨n :: List.replicate 31 0, by rfl⟩
theorem idc_idOf (k : Nat) (hk : k < 256) : idc (idOf (UInt8.ofNat k)) = .int .u8 k :: List.replicate 31 (.int .u8 0) := by
  have : (UInt8.ofNat k).toNat = k := by simp; omega
  simp only [idc, idOf, List.map_cons, this, List.map_replicate]
  rfl
theorem exec_id (k : Nat) (hk : k < 256) {w : World} {ρ : Operand → Value} {dst : Option Tmp} {t : TypeId} {p : String} {af : Array Edge} {gd : Option (Nat × Bool)} (x : Operand) (hx : ρ x = .int .u8 k) :
    (execOp ρ ⟨dst, .build 37 #[(0, x)], t, p, af, gd⟩).run Try.prog w = .ok (.value (.agg (idc (idOf (UInt8.ofNat k))).toArray)) w := by
  obtain ⟨i0, hi0, hz0, _, _⟩ := info_parts info37
  have hz' : (zeroValue 37).run Try.prog w = .ok z37 w := by simp [zeroValue, typeInfo, hi0, hz0]
  have hs : (sizeOf 5).run Try.prog w = .ok 1 w := by
    have := size5
    cases hq : Try.prog.info? 5 with
    | none => simp [hq] at this
    | some i => simp [hq] at this; simp [sizeOf, typeInfo, hq, this]
  have hf : Instr.fill (fun i => some (i * 1, 1)) z37.cells [(0, .int .u8 k)] = some (.int .u8 k :: List.replicate 31 (.int .u8 0)).toArray := by
    simp [Instr.fill, Value.cells, z37, zid, List.replicate]
  unfold execOp
  simp only [List.map_toArray, List.map_cons, List.map_nil, hx]
  unfold Instr.build
  simp only [Sem.run_bind, hz', Result.andThen_ok, Sem.run_pure, run_underlying Try.underlying37 w, hs, hf, idc_idOf k hk]

/-- the window and the three identities of the example -/
structure KS (w : World) (b pa pb pc : Nat) (s : Int) (l : List Ofr) : Prop where
  win : ∃ g, Win w b s l g ∧ g ≠ b
  A : Blk w pa 37 (idc (idOf 1)).toArray
  B : Blk w pb 37 (idc (idOf 2)).toArray
  C : Blk w pc 37 (idc (idOf 3)).toArray
  na : pa ≠ b
  nb : pb ≠ b
  nc : pc ≠ b
theorem KS.next {w w' : World} {b pa pb pc : Nat} {s s' : Int} {l l' : List Ofr} (h : KS w b pa pb pc s l) (hg : w.grownBy w' (some b)) (hw : ∃ g, Win w' b s' l' g ∧ g ≠ b) : KS w' b pa pb pc s' l' :=
  ⟨hw, h.A.grown hg (by simpa using h.na), h.B.grown hg (by simpa using h.nb), h.C.grown hg (by simpa using h.nc), h.na, h.nb, h.nc⟩
theorem KS.offer {w : World} {b pa pb pc : Nat} {s : Int} {l : List Ofr} (h : KS w b pa pb pc s l) (hl : l.length ≤ 100000) (i : Id) (n : Int) :
    Calls Try.prog 15 #[.pointer (some ⟨b, 0, none⟩), .agg (idc i).toArray, .int .i64 n] w fun e w' => e = .returned (.int .i64 (offE s l i n)) ∧ w.grownBy w' (some b) ∧ KS w' b pa pb pc s (offL s l i n) := by
  obtain ⟨g, hw, hgb⟩ := h.win
  exact (offer_any b g s l i n w hw hl hgb).mono fun e w' hh => ⟨hh.1, hh.2.1, h.next hh.2.1 hh.2.2⟩
theorem KS.answer {w : World} {b pa pb pc : Nat} {s : Int} {l : List Ofr} (h : KS w b pa pb pc s l) (hl : l.length ≤ 100000) (hok : OkL l) (i : Id) (n : Int) :
    Calls Try.prog 17 #[.pointer (some ⟨b, 0, none⟩), .agg (idc i).toArray, .int .i64 n] w fun e w' => e = .returned (.int .i64 (ansE l i n)) ∧ w.grownBy w' (some b) ∧ KS w' b pa pb pc s (ansL l i n) := by
  obtain ⟨g, hw, hgb⟩ := h.win
  exact (answer_any b g s l i n w hw hl hgb hok).mono fun e w' hh => ⟨hh.1, hh.2.1, h.next hh.2.1 hh.2.2⟩
theorem KS.settled {w : World} {b pa pb pc : Nat} {s : Int} {l : List Ofr} (h : KS w b pa pb pc s l) (hl : l.length ≤ 100000) :
    Calls Try.prog 13 #[.pointer (some ⟨b, 0, none⟩)] w fun e w' => ∃ v, e = .returned v ∧ w'.ownsRow w.heap.size 43 33 v (settled l).length ((settled l).flatMap resc) ∧ w.grownBy w' (some b) ∧ KS w' b pa pb pc s (l.drop (nset l)) := by
  obtain ⟨g, hw, hgb⟩ := h.win
  exact (settled_any b g s l w hw hl hgb).mono fun e w' ⟨v, h1, h2, h3, h4⟩ => ⟨v, h1, h2, h3, h.next h3 h4⟩

def kl1 : List Ofr := [⟨idOf 1, 5, 0⟩]
def kl2 : List Ofr := [⟨idOf 1, 5, 0⟩, ⟨idOf 2, 5, 0⟩]
def kl3 : List Ofr := [⟨idOf 1, 5, 0⟩, ⟨idOf 2, 5, 3⟩]
def kl4 : List Ofr := [⟨idOf 1, 5, 0⟩, ⟨idOf 2, 5, 3⟩, ⟨idOf 3, 5, 0⟩]
def kl5 : List Ofr := [⟨idOf 1, 5, 5⟩, ⟨idOf 2, 5, 3⟩, ⟨idOf 3, 5, 0⟩]
def kres : List Res := [⟨idOf 1, 5⟩, ⟨idOf 2, 3⟩]
def kresv : List Value := [.agg (resc ⟨idOf 1, 5⟩).toArray, .agg (resc ⟨idOf 2, 3⟩).toArray]
theorem k1 : offE 2 [] (idOf 1) 5 = 0 := by decide
theorem k1' : offL 2 [] (idOf 1) 5 = kl1 := by decide
theorem k2 : offE 2 kl1 (idOf 2) 5 = 0 := by decide
theorem k2' : offL 2 kl1 (idOf 2) 5 = kl2 := by decide
theorem k3 : offE 2 kl2 (idOf 3) 5 = 25 := by decide
theorem k3' : offL 2 kl2 (idOf 3) 5 = kl2 := by decide
theorem k4 : ansE kl2 (idOf 2) 3 = 0 := by decide
theorem k4' : ansL kl2 (idOf 2) 3 = kl3 := by decide
theorem k5 : settled kl3 = [] := by decide
theorem k5' : kl3.drop (nset kl3) = kl3 := by decide
theorem k6 : offE 2 kl3 (idOf 3) 5 = 0 := by decide
theorem k6' : offL 2 kl3 (idOf 3) 5 = kl4 := by decide
theorem k7 : ansE kl4 (idOf 1) 5 = 0 := by decide
theorem k7' : ansL kl4 (idOf 1) 5 = kl5 := by decide
theorem k8 : settled kl5 = kres := by decide
theorem okl2 : OkL kl2 := by unfold OkL; decide
theorem okl4 : OkL kl4 := by unfold OkL; decide

theorem kn0 : ([] : List Ofr).length ≤ 100000 := by decide
theorem kn1 : kl1.length ≤ 100000 := by decide
theorem kn2 : kl2.length ≤ 100000 := by decide
theorem kn3 : kl3.length ≤ 100000 := by decide
theorem kn4 : kl4.length ≤ 100000 := by decide
theorem kn5 : kl5.length ≤ 100000 := by decide
theorem info37' : (Try.prog.info? 37).map (fun i => i.zero) = some (some z37) := by kernel_rfl
theorem sz_id (i : Id) : (Try.prog.info? 37).map (·.size) = some (idc i).length := by rw [idc_len]; exact size37
theorem splice_id (i : Id) : zid.take 0 ++ idc i ++ zid.drop (0 + (idc i).length) = idc i := by rw [idc_len]; simp [zid]
theorem ld_id {w : World} {p : Nat} {i : Id} (h : Blk w p 37 (idc i).toArray) : (loadVar 37 ⟨p, 0, none⟩).run Try.prog w = .ok (.agg (idc i).toArray) w :=
  run_loadVar_cells 37 p 0 (idc i) _ Try.underlying37 rfl (sz_id i) (fun j u hu => by rw [Nat.zero_add, h.cell, List.getElem?_toArray]; exact hu)

theorem grown_undrew {w w' : World} {row : Option Nat} (h : w.drew.grownBy w' row) : w.grownBy w' row := ⟨h.os, h.tape, h.output, h.size, h.block⟩
theorem KS.grown {w w' : World} {b pa pb pc : Nat} {s : Int} {l : List Ofr} (h : KS w b pa pb pc s l) (hg : Below w.heap.size w w') : KS w' b pa pb pc s l := by
  obtain ⟨g, hw, hgb⟩ := h.win
  exact h.next (hg.grownBy _) ⟨g, hw.below hg, hgb⟩
/-- the relation of a region in which one window is worked on -/
def Rw (b : Nat) (w w' : World) : Prop := w.grownBy w' (some b)
theorem Rw.refl (b : Nat) (w : World) : Rw b w w := World.grownBy.refl _ _
theorem Rw.trans (b : Nat) (x y z : World) (h : Rw b x y) (k : Rw b y z) : Rw b x z := World.grownBy.trans' h k
theorem own_grown {w w' : World} {base e size n b : Nat} {v : Value} {xs : List Value} (h : w.ownsRow base e size v n xs) (hg : w.grownBy w' (some b)) (hb : b < base) : w'.ownsRow base e size v n xs :=
  h.kept hg (by
    cases hv : v.ownBlock with
    | none => exact .inl rfl
    | some x => exact .inr fun e => by have := (h.lt x hv).1; injection e with e; omega)
theorem kresv_flat : flatc kresv = kres.flatMap resc := by simp [flatc, kresv, kres, Value.cells]
theorem kresv_len : (kres.flatMap resc).length = 2 * 33 := length_flatMap_const resc_len kres
theorem wp_kres {Q : Exit → Act → World → Prop} {a : Act} {w : World} {o : Oper} {K : Act → World → Prop} (x y : Operand) (ho : o.op = .buildSlice 30 2 #[(0, x), (1, y)]) (hx : a.eval x = .agg (resc ⟨idOf 1, 5⟩).toArray) (hy : a.eval y = .agg (resc ⟨idOf 2, 3⟩).toArray)
    (h : K (a.put o.dst (.slice (some ⟨w.heap.size, 0, none⟩) 2 2)) (w.alloc (.cells (kres.flatMap resc).toArray 43))) : o.wp Try.prog a w K Q := by
  obtain ⟨i0, hi0, hz0, hz1, _⟩ := info_parts info43
  refine wp_buildSlice 30 2 _ ho 43 i0 z43 33 Try.underlying30 hi0 hz0 hz1 kresv rfl (by simp [numbered, hx, hy, kresv]) (fun v hv => ?_) (by decide) ?_
  · simp only [kresv, List.mem_cons, List.not_mem_nil, or_false] at hv
    rcases hv with rfl | rfl <;> simp [Value.cells, resc_len]
  · rw [kresv_flat]; exact h
theorem ks_start {w w1 w2 w3 w4 w5 w6 w7 : World} {s : Int} {z2 z3 z4 : Array Value} (hw : Win w1 w.heap.size s [] 0) (hb1 : Below w.heap.size w w1) (hz1 : w1.heap.size = w.heap.size + 1)
    (hb2 : Blk w2 w1.heap.size 37 z2) (hg2 : w1.grownBy w2 none) (hz2 : w2.heap.size = w1.heap.size + 1) (hb3 : Blk w3 w2.heap.size 37 z3) (hg3 : w2.grownBy w3 none) (hz3 : w3.heap.size = w2.heap.size + 1) (hb4 : Blk w4 w3.heap.size 37 z4) (hg4 : w3.grownBy w4 none) (hz4 : w4.heap.size = w3.heap.size + 1)
    (hb5 : Blk w5 w1.heap.size 37 (idc (idOf 1)).toArray) (hg5 : w4.grownBy w5 (some w1.heap.size)) (hb6 : Blk w6 w2.heap.size 37 (idc (idOf 2)).toArray) (hg6 : w5.grownBy w6 (some w2.heap.size)) (hb7 : Blk w7 w3.heap.size 37 (idc (idOf 3)).toArray) (hg7 : w6.grownBy w7 (some w3.heap.size)) :
    KS w7 w.heap.size w1.heap.size w2.heap.size w3.heap.size s [] ∧ Below w.heap.size w w7 := by
  obtain ⟨A, c, hblk, _, hc⟩ := hw
  have hbk := (((((hblk.grown hg2 (by simp)).grown hg3 (by simp)).grown hg4 (by simp)).grown hg5 (by simp; omega)).grown hg6 (by simp; omega)).grown hg7 (by simp; omega)
  refine ⟨⟨⟨w.heap.size + 1, ⟨A, c, hbk, Rd.nil _ _ _ _, hc⟩, by omega⟩, (hb5.grown hg6 (by simp; omega)).grown hg7 (by simp; omega), hb6.grown hg7 (by simp; omega), hb7, by omega, by omega, by omega⟩, ?_⟩
  have s5 := hg5.size
  have s6 := hg6.size
  exact (((((hb1.grown hg2 (by omega) (by simp)).grown hg3 (by omega) (by simp)).grown hg4 (by omega) (by simp)).grown hg5 (by omega) (fun k hk => by simp at hk; omega)).grown hg6 (by omega) (fun k hk => by simp at hk; omega)).grown hg7 (by omega) (fun k hk => by simp at hk; omega)
theorem wpList_wanted {P : Program} {ops : Array Oper} {Q : Exit → Act → World → Prop} {rest : List Oper} {a : Act} {w : World} {o : Oper} (hw : Region.wanted o (yielded ops a.tmps) = true) (h : ∀ K : Act → World → Prop, (∀ a w, wpList P ops Q rest a w → K a w) → o.wp P a w K Q) : wpList P ops Q (o :: rest) a w :=
  wpList_step fun K hK => by rw [if_pos hw]; exact h K hK
/-- an identity's variable is read; the operation may be guarded -/
theorem wpList_ld {ops : Array Oper} {Q : Exit → Act → World → Prop} {rest : List Oper} {a : Act} {w : World} {o : Oper} (hw : Region.wanted o (yielded ops a.tmps) = true) (x : Operand) (ho : o.op = .load 37 x) (p : Nat) (i : Id) (hx : a.eval x = .pointer (some ⟨p, 0, none⟩)) (hb : Blk w p 37 (idc i).toArray)
    (h : wpList Try.prog ops Q rest (a.put o.dst (.agg (idc i).toArray)) w) : wpList Try.prog ops Q (o :: rest) a w :=
  wpList_wanted hw fun _ hK => wp_load_cells 37 x ho p 0 (idc i) hx _ Try.underlying37 rfl (sz_id i) (fun j u hu => by rw [Nat.zero_add, hb.cell, List.getElem?_toArray]; exact hu) (hK _ _ h)

section
variable {ops : Array Oper} {Q : Exit → Act → World → Prop} {rest : List Oper} {a : Act} {w : World}
theorem wpList_al_id {o : Oper} (hgd : o.guard = none) (ho : o.op = .alloc 37)
    (h : ∀ w', Blk w' w.heap.size 37 zid.toArray → w.grownBy w' none → w'.heap.size = w.heap.size + 1 → wpList Try.prog ops Q rest (a.put o.dst (.pointer (some ⟨w.heap.size, 0, none⟩))) w') : wpList Try.prog ops Q (o :: rest) a w :=
  wpList_alloc_blk hgd 37 ho z37 zid rfl info37' h
theorem wpList_st_id {o : Oper} (hgd : o.guard = none) (px x : Operand) (ho : o.op = .store 37 px x) (g : Nat) (i : Id) (hb : Blk w g 37 zid.toArray) (hp : a.eval px = .pointer (some ⟨g, 0, none⟩)) (hx : a.eval x = .agg (idc i).toArray)
    (h : ∀ w', Blk w' g 37 (idc i).toArray → w.grownBy w' (some g) → w'.heap.size = w.heap.size → wpList Try.prog ops Q rest (a.put o.dst undef) w') : wpList Try.prog ops Q (o :: rest) a w :=
  wpList_store_blk hgd 37 px x ho g 0 37 zid (idc i) hb hp hx (sz_id i) (by rw [idc_len]; decide) (oneCell_idc i) (fun w' h1 h2 h3 => h w' (by rw [splice_id] at h1; exact h1) h2 h3)
end
attribute [local irreducible] zid idc idOf kl1 kl2 kl3 kl4 kl5 in
set_option maxHeartbeats 1000000 in
theorem known_any (w : World) : Calls Try.prog 11 #[] w fun e w' => e = .returned (.bool true) ∧ Below w.heap.size w w' := by
  go_enter Try.func11, Try.ntmps11
  go_wp2_with (first
    | (go_at_call 12; refine (new_ok 2 w (by decide)).mono ?_; rintro e w1 ⟨rfl, hw1, he1⟩; have HW1 := Lib.hid hw1; have hz1 : w1.heap.size = w.heap.size + 1 := (by rw [he1]; simp); have HZ1 := Lib.hid hz1; have HB1 := Lib.hid (he1 ▸ bnew w _); clear hw1 he1 hz1)
    | (with_reducible refine at_dst 10 ?_; refine wpList_run rfl (.agg (idc (idOf 1)).toArray) (exec_id 1 (by omega) _ rfl) ?_)
    | (with_reducible refine at_dst 11 ?_; refine wpList_run rfl (.agg (idc (idOf 2)).toArray) (exec_id 2 (by omega) _ rfl) ?_)
    | (with_reducible refine at_dst 12 ?_; refine wpList_run rfl (.agg (idc (idOf 3)).toArray) (exec_id 3 (by omega) _ rfl) ?_)
    | (with_reducible refine at_dst 3 ?_; refine wpList_al_id rfl rfl ?_; intro w2 hb2 hg2 hz2; have HB2 := Lib.hid hb2; have HG2 := Lib.hid hg2; have HZ2 := Lib.hid hz2; clear hb2 hg2 hz2)
    | (with_reducible refine at_dst 4 ?_; refine wpList_al_id rfl rfl ?_; intro w3 hb3 hg3 hz3; have HB3 := Lib.hid hb3; have HG3 := Lib.hid hg3; have HZ3 := Lib.hid hz3; clear hb3 hg3 hz3)
    | (with_reducible refine at_dst 5 ?_; refine wpList_al_id rfl rfl ?_; intro w4 hb4 hg4 hz4; have HB4 := Lib.hid hb4; have HG4 := Lib.hid hg4; have HZ4 := Lib.hid hz4; clear hb4 hg4 hz4)
    | (with_reducible refine at_store 37 3 ?_; refine wpList_st_id rfl (.tmp 3) (.tmp 10) rfl w1.heap.size (idOf 1) ((HB2.out.grown HG3.out (by simp)).grown HG4.out (by simp)) (by kernel_rfl) (by kernel_rfl) ?_; intro w5 hb5 hg5 hz5; have HB5 := Lib.hid hb5; have HG5 := Lib.hid hg5; have HZ5 := Lib.hid hz5; clear hb5 hg5 hz5)
    | (with_reducible refine at_store 37 4 ?_; refine wpList_st_id rfl (.tmp 4) (.tmp 11) rfl w2.heap.size (idOf 2) ((HB3.out.grown HG4.out (by simp)).grown HG5.out (by have := HZ2.out; simp; omega)) (by kernel_rfl) (by kernel_rfl) ?_; intro w6 hb6 hg6 hz6; have HB6 := Lib.hid hb6; have HG6 := Lib.hid hg6; have HZ6 := Lib.hid hz6; clear hb6 hg6 hz6)
    | (with_reducible refine at_store 37 5 ?_; refine wpList_st_id rfl (.tmp 5) (.tmp 12) rfl w3.heap.size (idOf 3) ((HB4.out.grown HG5.out (by have := HZ2.out; have := HZ3.out; simp; omega)).grown HG6.out (by have := HZ2.out; have := HZ3.out; simp; omega)) (by kernel_rfl) (by kernel_rfl) ?_; intro w7 hb7 hg7 hz7; have HB7 := Lib.hid hb7; have HG7 := Lib.hid hg7; have HZ7 := Lib.hid hz7; clear hb7 hg7 hz7; have hks := ks_start HW1.out HB1.out HZ1.out HB2.out HG2.out HZ2.out HB3.out HG3.out HZ3.out HB4.out HG4.out HZ4.out HB5.out HG5.out HB6.out HG6.out HB7.out HG7.out; have HK0 := Lib.hid hks.1; have HBL := Lib.hid hks.2; clear hks HB5 HB6 HB7 HG2 HG3 HG4 HG5 HG6 HG7 HB2 HB3 HB4)
    | (with_reducible refine at_dst 17 ?_; refine wpList_ld (by simp [Region.wanted, yielded]) (.tmp 3) rfl w1.heap.size (idOf 1) (by kernel_rfl) HK0.out.A ?_)
    | (go_at_call 15; refine (HK0.out.offer kn0 (idOf 1) 5).mono ?_; rintro e x1 ⟨he, hg, hk⟩; rw [k1] at he; subst he; rw [k1'] at hk; have HK1 := Lib.hid hk; have HX1 := Lib.hid hg; clear hk hg HK0)
    | (with_reducible refine at_dst 23 ?_; refine wpList_ld (by simp [Region.wanted, yielded]) (.tmp 4) rfl w2.heap.size (idOf 2) (by kernel_rfl) HK1.out.B ?_)
    | (go_at_call 15; refine (HK1.out.offer kn1 (idOf 2) 5).mono ?_; rintro e x2 ⟨he, hg, hk⟩; rw [k2] at he; subst he; rw [k2'] at hk; have HK2 := Lib.hid hk; have HX2 := Lib.hid hg; clear hk hg HK1)
    | (with_reducible refine at_dst 29 ?_; refine wpList_ld (by simp [Region.wanted, yielded]) (.tmp 5) rfl w3.heap.size (idOf 3) (by kernel_rfl) HK2.out.C ?_)
    | (go_at_call 15; refine (HK2.out.offer kn2 (idOf 3) 5).mono ?_; rintro e x3 ⟨he, hg, hk⟩; rw [k3] at he; subst he; rw [k3'] at hk; have HK3 := Lib.hid hk; have HX3 := Lib.hid hg; clear hk hg HK2)
    | (with_reducible refine at_dst 35 ?_; refine wpList_ld (by simp [Region.wanted, yielded]) (.tmp 4) rfl w2.heap.size (idOf 2) (by kernel_rfl) HK3.out.B ?_)
    | (go_at_call 17; refine (HK3.out.answer kn2 okl2 (idOf 2) 3).mono ?_; rintro e x4 ⟨he, hg, hk⟩; rw [k4] at he; subst he; rw [k4'] at hk; have HK4 := Lib.hid hk; have HX4 := Lib.hid hg; clear hk hg HK3)
    | (go_at_call 13; refine (HK4.out.settled kn3).mono ?_; rintro e x5 ⟨v, rfl, ho, hg, hk⟩; rw [k5] at ho; rw [k5'] at hk; obtain ⟨A5, c5, rfl⟩ := own_slice ho; have HK5 := Lib.hid hk; have HX5 := Lib.hid hg; clear hk hg ho HK4)
    | (with_reducible refine at_dst 47 ?_; refine wpList_ld (by simp [Region.wanted, yielded]) (.tmp 5) rfl w3.heap.size (idOf 3) (by kernel_rfl) HK5.out.C ?_)
    | (go_at_call 15; refine (HK5.out.offer kn3 (idOf 3) 5).mono ?_; rintro e x6 ⟨he, hg, hk⟩; rw [k6] at he; subst he; rw [k6'] at hk; have HK6 := Lib.hid hk; have HX6 := Lib.hid hg; clear hk hg HK5)
    | (with_reducible refine at_dst 53 ?_; refine wpList_ld (by simp [Region.wanted, yielded]) (.tmp 3) rfl w1.heap.size (idOf 1) (by kernel_rfl) HK6.out.A ?_)
    | (go_at_call 17; refine (HK6.out.answer kn4 okl4 (idOf 1) 5).mono ?_; rintro e x7 ⟨he, hg, hk⟩; rw [k7] at he; subst he; rw [k7'] at hk; have HK7 := Lib.hid hk; have HX7 := Lib.hid hg; clear hk hg HK6))
  have hB1 := HBL.out.grown HX1.out (by have := HBL.out.size; omega) (fun k hk => by simp at hk; omega)
  have hB2 := hB1.grown HX2.out (by have := hB1.size; omega) (fun k hk => by simp at hk; omega)
  have hB3 := hB2.grown HX3.out (by have := hB2.size; omega) (fun k hk => by simp at hk; omega)
  have hB4 := hB3.grown HX4.out (by have := hB3.size; omega) (fun k hk => by simp at hk; omega)
  have hB5 := hB4.grown HX5.out (by have := hB4.size; omega) (fun k hk => by simp at hk; omega)
  have hB6 := hB5.grown HX6.out (by have := hB5.size; omega) (fun k hk => by simp at hk; omega)
  have hB7 := hB6.grown HX7.out (by have := hB6.size; omega) (fun k hk => by simp at hk; omega)
  have hb7 : w.heap.size < x7.heap.size := by
    obtain ⟨_, hw, _⟩ := HK7.out.win
    exact hw.cells.1
  have HB := Lib.hid hB7
  have HL := Lib.hid hb7
  clear HBL HX1 HX2 HX3 HX4 HX5 HX6 HX7 hB1 hB2 hB3 hB4 hB5 hB6 hB7 hb7 HZ1 HZ2 HZ3 HZ4 HZ5 HZ6 HZ7 HW1 HB1
  refine wp_region_seqT (nt := 65) (by kernel_rfl) [0,1,2,3,4,5,6,7,8] [] (Rw w.heap.size) (Rw.refl _) (Rw.trans _)
    [(1, fun v w' => w'.ownsRow x7.heap.size 43 33 v kres.length (kres.flatMap resc)), (6, fun v w' => ∃ k, v = .slice (some ⟨k, 0, none⟩) 2 2 ∧ Blk w' k 43 (kres.flatMap resc).toArray ∧ k ≠ w.heap.size), (7, fun v w' => v = .bool true)]
    (by kernel_rfl) (by simp) rfl rfl (by simp) ?_ 1 (fun w' => KS w' w.heap.size w1.heap.size w2.heap.size w3.heap.size 2 kl5) (HK7.out.grown ⟨rfl, rfl, rfl, Nat.le_refl _, fun _ _ => rfl⟩) ?_
  · refine ⟨fun v w' w'' _ h2 h => own_grown h h2 HL.out, fun v w' w'' _ h2 h => ?_, fun _ _ _ _ _ h => h, trivial⟩
    obtain ⟨k, rfl, hk, hne⟩ := h
    exact ⟨k, rfl, hk.grown h2 (by simpa using hne), hne⟩
  (refine' Sq.det (E := _) (b := _) (by rfl) (by rfl) (by rfl) (fun w' hR hf => ?_) ?_ ?_; rotate_left 2; (· (go_simp; first | done | with_reducible rfl)); (· (simp only [Act.put, List.setIfInBounds_toArray, List.set_cons_zero, List.set_cons_succ]; first | done | rfl)))
  (refine' Sq.once (f := _) (by rfl) (by rfl) (by rfl) (fun w' hR hf ht => ?_) (fun v => ?_) (fun vs => ?_); (· (go_wp2_with (go_at_call 13; refine (ht.settled kn5).mono ?_; rintro e y ⟨v, rfl, ho, hg, hk⟩); rw [k8] at ho; exact ⟨hg, ownsRow_base ho hR.size⟩)); rotate_left 1; (· (simp only [Act.put, List.setIfInBounds_toArray, List.set_cons_zero, List.set_cons_succ]; first | done | rfl)))
  (refine' Sq.det (E := _) (b := _) (by rfl) (by rfl) (by rfl) (fun w' hR hf => ?_) ?_ ?_; rotate_left 2; (· (refine exec_load_cells 37 _ w1.heap.size 0 (idc (idOf 1)) ?_ _ Try.underlying37 rfl (sz_id _) (fun j u hu => ?_); (· kernel_rfl); (rw [Nat.zero_add, (HK7.out.A.grown (grown_undrew hR) (by have := HK7.out.na; simpa using this)).cell, List.getElem?_toArray]; exact hu))); (· (simp only [Act.put, List.setIfInBounds_toArray, List.set_cons_zero, List.set_cons_succ]; first | done | rfl)))
  (refine' Sq.det (E := _) (b := _) (by rfl) (by rfl) (by rfl) (fun w' hR hf => ?_) ?_ ?_; rotate_left 2; (· (refine exec_build43 _ _ ⟨idOf 1, 5⟩ ?_ ?_ <;> kernel_rfl)); (· (simp only [Act.put, List.setIfInBounds_toArray, List.set_cons_zero, List.set_cons_succ]; first | done | rfl)))
  (refine' Sq.det (E := _) (b := _) (by rfl) (by rfl) (by rfl) (fun w' hR hf => ?_) ?_ ?_; rotate_left 2; (· (refine exec_load_cells 37 _ w2.heap.size 0 (idc (idOf 2)) ?_ _ Try.underlying37 rfl (sz_id _) (fun j u hu => ?_); (· kernel_rfl); (rw [Nat.zero_add, (HK7.out.B.grown (grown_undrew hR) (by have := HK7.out.nb; simpa using this)).cell, List.getElem?_toArray]; exact hu))); (· (simp only [Act.put, List.setIfInBounds_toArray, List.set_cons_zero, List.set_cons_succ]; first | done | rfl)))
  (refine' Sq.det (E := _) (b := _) (by rfl) (by rfl) (by rfl) (fun w' hR hf => ?_) ?_ ?_; rotate_left 2; (· (refine exec_build43 _ _ ⟨idOf 2, 3⟩ ?_ ?_ <;> kernel_rfl)); (· (simp only [Act.put, List.setIfInBounds_toArray, List.set_cons_zero, List.set_cons_succ]; first | done | rfl)))
  (refine' Sq.keep (f := _) (by rfl) (by rfl) (by rfl) (by rfl) (fun w' hR hf => ?_) (fun v => ?_) (fun vb => ?_); (· (refine wp_kres _ _ rfl ?_ ?_ ?_; (· kernel_rfl); (· kernel_rfl); exact ⟨rfl, World.grownBy_alloc _ _ _, fun h => h.grown (bnew _ _), _, rfl, Blk.new _ _ _, by have := (grown_undrew hR).size; have := HL.out; omega⟩)); rotate_left 1; (· (simp only [Act.put, List.setIfInBounds_toArray, List.set_cons_zero, List.set_cons_succ]; first | done | rfl)))
  (refine' Sq.keep (f := _) (by rfl) (by rfl) (by rfl) (by rfl) (fun w' hR hf => ?_) (fun v => ?_) (fun vr => ?_); (· (have hv : w'.ownsRow x7.heap.size 43 33 vs kres.length (kres.flatMap resc) := hf 1 (by decide) _ rfl; obtain ⟨A, c, g, rfl, hr, _⟩ := NewSl.own hv; have hw : ∃ k, vb = .slice (some ⟨k, 0, none⟩) 2 2 ∧ Blk w' k 43 (kres.flatMap resc).toArray ∧ k ≠ w.heap.size := hf 6 (by decide) _ rfl; obtain ⟨k, rfl, hk, _⟩ := hw; go_wp2_with (go_at_call 18; refine (results_any kres kres g c k 2 A (some ⟨k, 0, none⟩) w' hr (hk.rd kresv_len) (by decide) (by decide)).mono ?_; rintro e y ⟨rfl, hby⟩); exact ⟨hby.grownBy _, fun h => h.grown hby⟩)); rotate_left 1; (· (simp only [Act.put, List.setIfInBounds_toArray, List.set_cons_zero, List.set_cons_succ]; first | done | rfl)))
  (refine' Sq.det (E := _) (b := _) (by rfl) (by rfl) (by rfl) (fun w' hR hf => ?_) ?_ ?_; rotate_left 2; (· (go_simp; first | done | with_reducible rfl)); (· (simp only [Act.put, List.setIfInBounds_toArray, List.set_cons_zero, List.set_cons_succ]; first | done | rfl)))
  refine Sq.done fun y hR hp => ?_
  have hv : vr = .bool true := hp 7 (by decide) _ rfl
  subst hv
  have HF := Lib.hid (HB.out.grown (grown_undrew hR) (by have := HL.out; omega) (fun k hk => by simp at hk; omega))
  clear hR hp
  go_wp2
  go_ret
  exact ⟨rfl, HF.out⟩
end Go.Proofs.Ytbcejdmgdgghfaa
