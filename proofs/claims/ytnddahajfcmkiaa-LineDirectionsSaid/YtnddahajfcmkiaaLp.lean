/- The line: rise. Conditions: a valid description, a minute and a number of sessions that cannot run over. -/
import Derived.Test.YtnddahajfcmkiaaLo
namespace Go.Proofs.Ytnddahajfcmkiaa
set_option linter.unusedSimpArgs false
set_option linter.unusedVariables false
set_option linter.unnecessarySimpa false
open Go.RowKit

def riseL (L : Ln) : Ln := if (winC L.cfg L.now).2.2 = true then { L with up := true, ses := L.ses + 1, l := { L.l with arr := ⟨#[]⟩ }, r := { L.r with arr := ⟨#[]⟩ } } else L
theorem z62z : (Try.prog.info? 62).map (fun i => i.zero) = some (some z62) := by kernel_rfl
def F62 (cs : Array Value) : Prop := ∃ x y, cs = #[.int .i64 x, .int .i64 y]
def PC62 (B : Nat) (x : Wn) (i : Nat) (f : Nat → Value) (w' : World) : Prop := ∃ q, f i = .pointer (some ⟨q, 0, none⟩) ∧ B ≤ q ∧ Blk w' q 62 (winc x).toArray
theorem Blk.rv62 {B g : Nat} {t : TypeId} {cs : Array Value} {w w' : World} (h : Blk w g t cs) (hR : Rv B 62 F62 w w') (hB : B ≤ w.heap.size) (hn : t ≠ 62) : Blk w' g t cs := hR.blk hB h (.inl hn)
theorem pre4 {α : Type} {a b c d : α} {l : List α} {j : Nat} {u : α} (h : [a, b, c, d][j]? = some u) : (a :: b :: c :: d :: l)[j]? = some u := by
  match j, h with
  | 0, h => exact h
  | 1, h => exact h
  | 2, h => exact h
  | 3, h => exact h
set_option maxRecDepth 20000 in
set_option maxHeartbeats 2000000 in
theorem rise_no (r d p now ses lo hi bs : Int) (up : Bool) (ws : List Wn) (A A0 A1 : Option Addr) (b c n0 n1 c0 c1 : Nat) (s0 s1 a0 a1 : ByteArray) (w : World)
    (hL : Blk w b 87 #[.int .i64 r, .int .i64 d, .int .i64 p, .slice A ws.length c, .int .i64 now, .bool up, .int .i64 ses, .string s0, .slice A0 n0 c0, .string a0, .string s1, .slice A1 n1 c1, .string a1])
    (hW : ∀ w', Below w.heap.size w w' → Calls Try.prog 53 #[.agg #[.int .i64 r, .int .i64 d, .int .i64 p, .slice A ws.length c], .int .i64 now] w' fun e w2 => e = .returned (.tuple #[.agg #[.int .i64 lo, .int .i64 hi], .int .i64 bs, .bool false]) ∧ Below w'.heap.size w' w2) :
    Calls Try.prog 42 #[.pointer (some ⟨b, 0, none⟩)] w fun e w' => e = .returned (.tuple #[]) ∧ Below w.heap.size w w' := by
  have LN := Lib.hid hL
  have HW := Lib.hid hW
  clear hL hW
  go_enter Try.func42, Try.ntmps42
  go_wp2
  refine wp_region_seqX (nt := 41) (by kernel_rfl) ⟨Rb, some 14, fun j => Nat.beq j 13, PC62 w.heap.size ⟨lo, hi⟩ 13⟩ [0,1,2,3,4,5,6,7,8,9,10,11,12,13,14,15,16] [] (Rv w.heap.size 62 F62) Rv.refl Rb.refl Rv.of_rb Rv.trans [(8, fun v _ => v = .tuple #[.agg #[.int .i64 lo, .int .i64 hi], .int .i64 bs, .bool false]), (13, fun v w' => ∃ q, v = .pointer (some ⟨q, 0, none⟩) ∧ w.heap.size ≤ q ∧ Blk w' q 62 #[.int .i64 0, .int .i64 0]), (14, fun _ _ => True)] (by kernel_rfl) (by simp) rfl (by kernel_rfl) (by simp) ?_ ?_ ?_ ?_
  · rintro f w' w2 _ h2 ⟨q, e1, e2, h⟩
    exact ⟨q, e1, e2, h.below h2⟩
  · intro i hi
    obtain rfl : 14 = i := by simpa [Ext.at] using hi
    rfl
  · refine ⟨fun v w w' h0 h2 h => h, fun v w1 w2 h0 h2 h => ?_, fun _ _ _ _ _ h => h, trivial⟩
    rcases h2 with h2 | h2
    · exact absurd h2.1.1 (fun h => by cases h)
    · obtain ⟨q, e, hq, hb⟩ := h
      exact ⟨q, e, hq, hb.below h2⟩
  iterate 3 (refine' Sq.det (E := _) (b := _) (by rfl) (by rfl) (by rfl) (fun w' hR hf => ?_) ?_ ?_; rotate_left 2; (· (go_simp; first | done | with_reducible rfl)); (· (simp only [Act.put, List.setIfInBounds_toArray, List.set_cons_zero, List.set_cons_succ]; first | done | rfl)))
  (refine' Sq.det (E := _) (b := _) (by rfl) (by rfl) (by rfl) (fun w' hR hf => ?_) ?_ ?_; rotate_left 2; (· (refine exec_load_cells 35 _ b 0 [.int .i64 r, .int .i64 d, .int .i64 p, .slice A ws.length c] ?_ _ Try.underlying35 rfl info35 (fun j u hu => ?_); (· kernel_rfl); (rw [Nat.zero_add, (LN.out.below (rv_below hR)).cell, List.getElem?_toArray]; exact pre4 hu))); (· (simp only [Act.put, List.setIfInBounds_toArray, List.set_cons_zero, List.set_cons_succ]; first | done | rfl)))
  iterate 3 (refine' Sq.det (E := _) (b := _) (by rfl) (by rfl) (by rfl) (fun w' hR hf => ?_) ?_ ?_; rotate_left 2; (· (go_simp; first | done | with_reducible rfl)); (· (simp only [Act.put, List.setIfInBounds_toArray, List.set_cons_zero, List.set_cons_succ]; first | done | rfl)))
  (refine' Sq.det (E := _) (b := _) (by rfl) (by rfl) (by rfl) (fun w' hR hf => ?_) ?_ ?_; rotate_left 2; (· (have hc : w'.cell? ⟨b, 4, none⟩ = some (.int .i64 now) := (LN.out.below (rv_below hR)).cell 4; go_simp; first | done | with_reducible rfl)); (· (simp only [Act.put, List.setIfInBounds_toArray, List.set_cons_zero, List.set_cons_succ]; first | done | rfl)))
  (refine' Sq.anyX (f := _) (by rfl) (by rfl) (by rfl) (by rfl) (fun w' hR hf => ?_) (fun v => ?_) (fun v8 => ?_); (· (go_wp2_with (go_at_call 53; refine (HW.out w' (rv_below hR)).mono ?_; rintro e w1 ⟨he, hb1⟩; subst he); exact hb1)); rotate_left 1; (· (simp only [Act.put, List.setIfInBounds_toArray, List.set_cons_zero, List.set_cons_succ]; first | done | rfl)))
  (refine' Sq.det (E := _) (b := _) (by rfl) (by rfl) (by rfl) (fun w' hR hf => ?_) ?_ ?_; rotate_left 2; (· (obtain rfl : v8 = .tuple #[.agg #[.int .i64 lo, .int .i64 hi], .int .i64 bs, .bool false] := hf 8 (by decide) _ rfl; go_simp; first | done | with_reducible rfl)); (· (simp only [Act.put, List.setIfInBounds_toArray, List.set_cons_zero, List.set_cons_succ]; first | done | rfl)))
  iterate 3 (refine' Sq.det (E := _) (b := _) (by rfl) (by rfl) (by rfl) (fun w' hR hf => ?_) ?_ ?_; rotate_left 2; (· (go_simp; first | done | with_reducible rfl)); (· (simp only [Act.put, List.setIfInBounds_toArray, List.set_cons_zero, List.set_cons_succ]; first | done | rfl)))
  (refine' Sq.anyX (f := _) (by rfl) (by rfl) (by rfl) (by rfl) (fun w' hR hf => ?_) (fun v => ?_) (fun v13 => ?_); (· (refine wp_alloc_blk 62 rfl z62 [.int .i64 0, .int .i64 0] rfl z62z ?_; intro w1 hk1 hk2; exact ⟨rfl, hk2, _, rfl, (rv_below hR).size, hk1⟩)); rotate_left 1; (· (simp only [Act.put, List.setIfInBounds_toArray, List.set_cons_zero, List.set_cons_succ]; first | done | rfl)))
  (refine' Sq.store (by rfl) (by rfl) (by rfl) (by rfl) (fun w' hR hf => ?_) ?_; (· (obtain ⟨q, hq, hqB, hbq⟩ : ∃ q, v13 = .pointer (some ⟨q, 0, none⟩) ∧ w.heap.size ≤ q ∧ Blk w' q 62 #[.int .i64 0, .int .i64 0] := hf 13 (by decide) _ rfl; subst hq; refine wp_store_blk 62 _ _ rfl q 0 62 [.int .i64 0, .int .i64 0] (winc ⟨lo, hi⟩) hbq (by kernel_rfl) (by kernel_rfl) size62 (by simp [winc]) (by simp [winc, Value.oneCell']) ?_; intro w1 hn1 hg1 _; refine ⟨rfl, Rv.store hbq ⟨_, _, rfl⟩ hqB hg1, ?_⟩; exact ⟨q, rfl, hqB, by simpa [winc] using hn1⟩)))
  iterate 2 (refine' Sq.det (E := _) (b := _) (by rfl) (by rfl) (by rfl) (fun w' hR hf => ?_) ?_ ?_; rotate_left 2; (· (go_simp; first | done | with_reducible rfl)); (· (simp only [Act.put, List.setIfInBounds_toArray, List.set_cons_zero, List.set_cons_succ]; first | done | rfl)))
  refine Sq.doneX fun w4 hR hp hpc => ?_
  have HB4 := Lib.hid (rv_below hR)
  obtain ⟨q, e1, _, hbq⟩ := hpc 14 (by decide) rfl
  obtain rfl : v13 = .pointer (some ⟨q, 0, none⟩) := e1
  have HQ := Lib.hid hbq
  clear hp hpc hR hbq
  go_wp2
  first | go_end0 | refine bodyPost_ret (results_none rfl _ _ _) rfl ?_
  exact ⟨rfl, HB4.out⟩
def L87 (r d p : Int) (A : Option Addr) (nw c : Nat) (now : Int) (up : Bool) (ses : Int) (s0 : ByteArray) (A0 : Option Addr) (n0 c0 : Nat) (a0 s1 : ByteArray) (A1 : Option Addr) (n1 c1 : Nat) (a1 : ByteArray) : List Value :=
  [.int .i64 r, .int .i64 d, .int .i64 p, .slice A nw c, .int .i64 now, .bool up, .int .i64 ses, .string s0, .slice A0 n0 c0, .string a0, .string s1, .slice A1 n1 c1, .string a1]
set_option maxRecDepth 20000 in
set_option maxHeartbeats 2000000 in
theorem rise_yes (r d p now ses lo hi bs : Int) (up : Bool) (ws : List Wn) (A A0 A1 : Option Addr) (b c n0 n1 c0 c1 : Nat) (s0 s1 a0 a1 : ByteArray) (w : World) (hs0 : 0 ≤ ses) (hs1 : ses ≤ 1000000000)
    (hL : Blk w b 87 (L87 r d p A ws.length c now up ses s0 A0 n0 c0 a0 s1 A1 n1 c1 a1).toArray)
    (hW : ∀ w', Below w.heap.size w w' → Calls Try.prog 53 #[.agg #[.int .i64 r, .int .i64 d, .int .i64 p, .slice A ws.length c], .int .i64 now] w' fun e w2 => e = .returned (.tuple #[.agg #[.int .i64 lo, .int .i64 hi], .int .i64 bs, .bool true]) ∧ Below w'.heap.size w' w2) :
    Calls Try.prog 42 #[.pointer (some ⟨b, 0, none⟩)] w fun e w' => e = .returned (.tuple #[]) ∧ Blk w' b 87 (L87 r d p A ws.length c now true (ses + 1) s0 A0 n0 c0 ⟨#[]⟩ s1 A1 n1 c1 ⟨#[]⟩).toArray ∧ w.grownBy w' (some b) := by
  have LN := Lib.hid hL
  have HW := Lib.hid hW
  clear hL hW
  go_enter Try.func42, Try.ntmps42
  go_wp2
  refine wp_region_seqX (nt := 41) (by kernel_rfl) ⟨Rb, some 14, fun j => Nat.beq j 13, PC62 w.heap.size ⟨lo, hi⟩ 13⟩ [0,1,2,3,4,5,6,7,8,9,10,11,12,13,14,15,16] [] (Rv w.heap.size 62 F62) Rv.refl Rb.refl Rv.of_rb Rv.trans [(8, fun v _ => v = .tuple #[.agg #[.int .i64 lo, .int .i64 hi], .int .i64 bs, .bool true]), (13, fun v w' => ∃ q, v = .pointer (some ⟨q, 0, none⟩) ∧ w.heap.size ≤ q ∧ Blk w' q 62 #[.int .i64 0, .int .i64 0]), (14, fun _ _ => True)] (by kernel_rfl) (by simp) rfl (by kernel_rfl) (by simp) ?_ ?_ ?_ ?_
  · rintro f w' w2 _ h2 ⟨q, e1, e2, h⟩
    exact ⟨q, e1, e2, h.below h2⟩
  · intro i hi
    obtain rfl : 14 = i := by simpa [Ext.at] using hi
    rfl
  · refine ⟨fun v w w' h0 h2 h => h, fun v w1 w2 h0 h2 h => ?_, fun _ _ _ _ _ h => h, trivial⟩
    rcases h2 with h2 | h2
    · exact absurd h2.1.1 (fun h => by cases h)
    · obtain ⟨q, e, hq, hb⟩ := h
      exact ⟨q, e, hq, hb.below h2⟩
  iterate 3 (refine' Sq.det (E := _) (b := _) (by rfl) (by rfl) (by rfl) (fun w' hR hf => ?_) ?_ ?_; rotate_left 2; (· (go_simp; first | done | with_reducible rfl)); (· (simp only [Act.put, List.setIfInBounds_toArray, List.set_cons_zero, List.set_cons_succ]; first | done | rfl)))
  (refine' Sq.det (E := _) (b := _) (by rfl) (by rfl) (by rfl) (fun w' hR hf => ?_) ?_ ?_; rotate_left 2; (· (refine exec_load_cells 35 _ b 0 [.int .i64 r, .int .i64 d, .int .i64 p, .slice A ws.length c] ?_ _ Try.underlying35 rfl info35 (fun j u hu => ?_); (· kernel_rfl); (rw [Nat.zero_add, (LN.out.below (rv_below hR)).cell, List.getElem?_toArray]; exact pre4 hu))); (· (simp only [Act.put, List.setIfInBounds_toArray, List.set_cons_zero, List.set_cons_succ]; first | done | rfl)))
  iterate 3 (refine' Sq.det (E := _) (b := _) (by rfl) (by rfl) (by rfl) (fun w' hR hf => ?_) ?_ ?_; rotate_left 2; (· (go_simp; first | done | with_reducible rfl)); (· (simp only [Act.put, List.setIfInBounds_toArray, List.set_cons_zero, List.set_cons_succ]; first | done | rfl)))
  (refine' Sq.det (E := _) (b := _) (by rfl) (by rfl) (by rfl) (fun w' hR hf => ?_) ?_ ?_; rotate_left 2; (· (have hc : w'.cell? ⟨b, 4, none⟩ = some (.int .i64 now) := (LN.out.below (rv_below hR)).cell 4; go_simp; first | done | with_reducible rfl)); (· (simp only [Act.put, List.setIfInBounds_toArray, List.set_cons_zero, List.set_cons_succ]; first | done | rfl)))
  (refine' Sq.anyX (f := _) (by rfl) (by rfl) (by rfl) (by rfl) (fun w' hR hf => ?_) (fun v => ?_) (fun v8 => ?_); (· (go_wp2_with (go_at_call 53; refine (HW.out w' (rv_below hR)).mono ?_; rintro e w1 ⟨he, hb1⟩; subst he); exact hb1)); rotate_left 1; (· (simp only [Act.put, List.setIfInBounds_toArray, List.set_cons_zero, List.set_cons_succ]; first | done | rfl)))
  (refine' Sq.det (E := _) (b := _) (by rfl) (by rfl) (by rfl) (fun w' hR hf => ?_) ?_ ?_; rotate_left 2; (· (obtain rfl : v8 = .tuple #[.agg #[.int .i64 lo, .int .i64 hi], .int .i64 bs, .bool true] := hf 8 (by decide) _ rfl; go_simp; first | done | with_reducible rfl)); (· (simp only [Act.put, List.setIfInBounds_toArray, List.set_cons_zero, List.set_cons_succ]; first | done | rfl)))
  iterate 3 (refine' Sq.det (E := _) (b := _) (by rfl) (by rfl) (by rfl) (fun w' hR hf => ?_) ?_ ?_; rotate_left 2; (· (go_simp; first | done | with_reducible rfl)); (· (simp only [Act.put, List.setIfInBounds_toArray, List.set_cons_zero, List.set_cons_succ]; first | done | rfl)))
  (refine' Sq.anyX (f := _) (by rfl) (by rfl) (by rfl) (by rfl) (fun w' hR hf => ?_) (fun v => ?_) (fun v13 => ?_); (· (refine wp_alloc_blk 62 rfl z62 [.int .i64 0, .int .i64 0] rfl z62z ?_; intro w1 hk1 hk2; exact ⟨rfl, hk2, _, rfl, (rv_below hR).size, hk1⟩)); rotate_left 1; (· (simp only [Act.put, List.setIfInBounds_toArray, List.set_cons_zero, List.set_cons_succ]; first | done | rfl)))
  (refine' Sq.store (by rfl) (by rfl) (by rfl) (by rfl) (fun w' hR hf => ?_) ?_; (· (obtain ⟨q, hq, hqB, hbq⟩ : ∃ q, v13 = .pointer (some ⟨q, 0, none⟩) ∧ w.heap.size ≤ q ∧ Blk w' q 62 #[.int .i64 0, .int .i64 0] := hf 13 (by decide) _ rfl; subst hq; refine wp_store_blk 62 _ _ rfl q 0 62 [.int .i64 0, .int .i64 0] (winc ⟨lo, hi⟩) hbq (by kernel_rfl) (by kernel_rfl) size62 (by simp [winc]) (by simp [winc, Value.oneCell']) ?_; intro w1 hn1 hg1 _; refine ⟨rfl, Rv.store hbq ⟨_, _, rfl⟩ hqB hg1, ?_⟩; exact ⟨q, rfl, hqB, by simpa [winc] using hn1⟩)))
  iterate 2 (refine' Sq.det (E := _) (b := _) (by rfl) (by rfl) (by rfl) (fun w' hR hf => ?_) ?_ ?_; rotate_left 2; (· (go_simp; first | done | with_reducible rfl)); (· (simp only [Act.put, List.setIfInBounds_toArray, List.set_cons_zero, List.set_cons_succ]; first | done | rfl)))
  refine Sq.doneX fun w4 hR hp hpc => ?_
  have HB4 := Lib.hid (rv_below hR)
  obtain ⟨q, e1, _, hbq⟩ := hpc 14 (by decide) rfl
  obtain rfl : v13 = .pointer (some ⟨q, 0, none⟩) := e1
  have HQ := Lib.hid hbq
  clear hp hpc hR hbq
  have LN4 := Lib.hid (LN.out.below HB4.out)
  have hc5 : w4.cell? ⟨b, 5, none⟩ = some (.bool up) := LN4.out.cell 5
  have hf5 := LN4.out.frozen 5
  have hc6 : w4.cell? ⟨b, 6, none⟩ = some (.int .i64 ses) := LN4.out.cell 6
  have hf6 := LN4.out.frozen 6
  have LN5 := Lib.hid ((LN4.out.set_ 5 (.bool true)).set_ 6 (.int .i64 (ses + 1)))
  have HG5 := Lib.hid (((HB4.out.grownBy (some b)).trans' (grownBy_setCell w4 b 5 (.bool true))).trans' (grownBy_setCell _ b 6 (.int .i64 (ses + 1))))
  go_wp2
  clear hc5 hf5 hc6 hf6
  go_loopw [31] (fun kv wr => ∃ k : Nat, k ≤ 2 ∧ kv = .int .i64 k ∧ Hid (∃ x0 x1, Blk wr b 87 (L87 r d p A ws.length c now true (ses + 1) s0 A0 n0 c0 x0 s1 A1 n1 c1 x1).toArray ∧ (0 < k → x0 = ⟨#[]⟩) ∧ (1 < k → x1 = ⟨#[]⟩)) ∧ Hid (w.grownBy wr (some b))) (fun kv _ => 2 - (intOf kv).toNat)
  case atStart => exact ⟨0, by omega, rfl, Lib.hid ⟨a0, a1, LN5.out, fun h => by omega, fun h => by omega⟩, HG5⟩
  case round =>
    obtain ⟨k, hk, rfl, HX, HGW⟩ := hrel
    obtain ⟨x0, x1, hbl, e0, e1⟩ := HX.out
    have HBL := Lib.hid hbl
    have HE := Lib.hid (And.intro e0 e1)
    clear hbl e0 e1 HX
    rcases (by omega : k = 0 ∨ k = 1 ∨ k = 2) with rfl | rfl | rfl
    · have hfz := HBL.out.frozen 9
      have hcs : wr.cell? ⟨b, 9, none⟩ = some (.string x0) := HBL.out.cell 9
      go_wp2
      go_roundw
      case rel => exact ⟨1, by omega, by go_num, Lib.hid ⟨⟨#[]⟩, x1, HBL.out.set_ 9 (.string ⟨#[]⟩), fun _ => rfl, fun h => by omega⟩, Lib.hid (HGW.out.trans' (grownBy_setCell _ b 9 _))⟩
      case measure => simp [intOf]
    · have hfz := HBL.out.frozen 12
      have hcs : wr.cell? ⟨b, 12, none⟩ = some (.string x1) := HBL.out.cell 12
      go_wp2
      go_roundw
      case rel => exact ⟨2, by omega, by go_num, Lib.hid ⟨x0, ⟨#[]⟩, HBL.out.set_ 12 (.string ⟨#[]⟩), fun _ => HE.out.1 (by omega), fun h => rfl⟩, Lib.hid (HGW.out.trans' (grownBy_setCell _ b 12 _))⟩
      case measure => simp [intOf]
    · have E0 := HE.out.1 (by omega)
      have E1 := HE.out.2 (by omega)
      subst E0 E1
      go_wp2
      first | go_end0 | refine bodyPost_ret (results_none rfl _ _ _) rfl ?_
      exact ⟨rfl, HBL.out, HGW.out⟩

/-! ### a line whose flights it owns: what changes lies in its own block and in those of its flights -/
/-- a slice of flights with what room lies behind it, in a block of its own -/
def OT (w : World) (g : Nat) (A : Option Addr) (n c : Nat) (xs : List Value) : Prop :=
  n ≤ c ∧ xs.length = n * 2 ∧ (0 < c → ∃ off cur, A = some ⟨g, off, none⟩ ∧ Blk w g 95 cur ∧ off + c * 2 ≤ cur.size ∧ ∀ j u, xs[j]? = some u → cur[off + j]? = some u)
section
variable {w w' : World} {b gw g0 g1 c c0 c1 n g : Nat} {L : Ln} {A A0 A1 : Option Addr} {xs : List Value}
theorem OT.rd (h : OT w g A n c xs) : Rd w g 2 A n xs := ⟨h.2.1, fun hn => by
  obtain ⟨off, cur, e, hb, _, hc⟩ := h.2.2 (Nat.lt_of_lt_of_le hn h.1)
  exact ⟨hb.lt, off, e, fun j u hu => by rw [hb.cell]; exact hc j u hu⟩⟩
theorem OT.nil (w : World) (g : Nat) : OT w g none 0 0 [] := ⟨Nat.le_refl _, rfl, fun h => absurd h (by omega)⟩
theorem OT.keep (h : OT w g A n c xs) (hk : 0 < c → w'.heap[g]? = w.heap[g]?) : OT w' g A n c xs := ⟨h.1, h.2.1, fun hc => by
  obtain ⟨off, cur, e, hb, h1, h2⟩ := h.2.2 hc
  exact ⟨off, cur, e, (hk hc).trans hb, h1, h2⟩⟩
theorem OT.lt (h : OT w g A n c xs) (hc : 0 < c) : g < w.heap.size := by
  obtain ⟨off, cur, e, hb, h1, h2⟩ := h.2.2 hc
  exact hb.lt
theorem OT.grown {k : Nat} (h : OT w g A n c xs) (hg : w.grownBy w' (some k)) (hne : 0 < c → g ≠ k) : OT w' g A n c xs :=
  h.keep fun hc => hg.block g (h.lt hc) (by simpa using hne hc)
structure LnO (w : World) (b : Nat) (L : Ln) (gw g0 g1 : Nat) (A A0 A1 : Option Addr) (c c0 c1 : Nat) : Prop where
  blk : Blk w b 87 (lnc L A A0 A1 c c0 c1).toArray
  rw_ : Rd w gw 2 A L.cfg.ws.length (L.cfg.ws.flatMap winc)
  tw : 0 < L.cfg.ws.length → ∃ cs, Blk w gw 62 cs
  lw : L.cfg.ws.length ≤ c
  t0 : OT w g0 A0 L.l.fl.length c0 (L.l.fl.flatMap flc)
  t1 : OT w g1 A1 L.r.fl.length c1 (L.r.fl.flatMap flc)
  ne : 0 < c0 → 0 < c1 → g0 ≠ g1
theorem LnO.at (h : LnO w b L gw g0 g1 A A0 A1 c c0 c1) : LnAt w b L gw g0 g1 A A0 A1 c c0 c1 := ⟨h.blk, h.rw_, h.t0.rd, h.t1.rd, h.lw, h.t0.1, h.t1.1⟩
theorem LnO.nb0 (h : LnO w b L gw g0 g1 A A0 A1 c c0 c1) (hc : 0 < c0) : g0 ≠ b := by
  obtain ⟨off, cur, e, hb, h1, h2⟩ := h.t0.2.2 hc
  exact hb.ne_ h.blk (by decide)
theorem LnO.nb1 (h : LnO w b L gw g0 g1 A A0 A1 c c0 c1) (hc : 0 < c1) : g1 ≠ b := by
  obtain ⟨off, cur, e, hb, h1, h2⟩ := h.t1.2.2 hc
  exact hb.ne_ h.blk (by decide)
theorem LnO.nbw (h : LnO w b L gw g0 g1 A A0 A1 c c0 c1) (hc : 0 < L.cfg.ws.length) : gw ≠ b := by
  obtain ⟨cs, hb⟩ := h.tw hc
  exact hb.ne_ h.blk (by decide)
/-- a change in the line's own block alone -/
theorem LnO.own {L' : Ln} (h : LnO w b L gw g0 g1 A A0 A1 c c0 c1) (hb : Blk w' b 87 (lnc L' A A0 A1 c c0 c1).toArray) (hg : w.grownBy w' (some b)) (hc : L'.cfg = L.cfg) (h0 : L'.l.fl = L.l.fl) (h1 : L'.r.fl = L.r.fl) : LnO w' b L' gw g0 g1 A A0 A1 c c0 c1 := by
  refine ⟨hb, ?_, ?_, ?_, ?_, ?_, h.ne⟩
  · rw [hc]
    rcases Nat.eq_zero_or_pos L.cfg.ws.length with he | he
    · have := h.rw_
      rw [he] at this ⊢
      have e : L.cfg.ws.flatMap winc = [] := List.eq_nil_of_length_eq_zero (by simpa using this.1)
      rw [e]; exact Rd.nil _ _ _ _
    · exact h.rw_.grown hg (by simpa using h.nbw he)
  · rw [hc]
    intro he
    obtain ⟨cs, hb⟩ := h.tw he
    exact ⟨cs, hb.grown hg (by simpa using h.nbw he)⟩
  · rw [hc]; exact h.lw
  · rw [h0]; exact h.t0.grown hg h.nb0
  · rw [h1]; exact h.t1.grown hg h.nb1
theorem LnO.below (h : LnO w b L gw g0 g1 A A0 A1 c c0 c1) (hb : Below w.heap.size w w') : LnO w' b L gw g0 g1 A A0 A1 c c0 c1 :=
  ⟨h.blk.below hb, h.rw_.below hb, fun he => (h.tw he).imp fun _ k => k.below hb, h.lw, h.t0.keep fun hc => hb.block _ (h.t0.lt hc), h.t1.keep fun hc => hb.block _ (h.t1.lt hc), h.ne⟩
theorem rise_any (h : LnO w b L gw g0 g1 A A0 A1 c c0 c1) (hok : chkC L.cfg = 0) (hn0 : 0 ≤ L.now) (hn1 : L.now ≤ 10000000) (hs0 : 0 ≤ L.ses) (hs1 : L.ses ≤ 1000000000) :
    Calls Try.prog 42 #[.pointer (some ⟨b, 0, none⟩)] w fun e w' => e = .returned (.tuple #[]) ∧ LnO w' b (riseL L) gw g0 g1 A A0 A1 c c0 c1 ∧ w.grownBy w' (some b) := by
  have hW := fun (w' : World) (hb : Below w.heap.size w w') => window_any L.cfg L.now gw c A w' (h.rw_.below hb) (by have := (chk_ok hok).2.1; omega) (chk_per hok).1 hn0 (by omega)
  cases hwc : (winC L.cfg L.now).2.2
  · refine (rise_no L.cfg.rate L.cfg.delay L.cfg.period L.now L.ses (winC L.cfg L.now).1.lo (winC L.cfg L.now).1.hi (winC L.cfg L.now).2.1 L.up L.cfg.ws A A0 A1 b c L.l.fl.length L.r.fl.length c0 c1 L.l.wait L.r.wait L.l.arr L.r.arr w h.blk (fun w' hb => by have := hW w' hb; rw [hwc] at this; exact this)).mono ?_
    rintro e w' ⟨rfl, hb⟩
    have e : riseL L = L := by simp [riseL, hwc]
    rw [e]
    exact ⟨rfl, h.below hb, hb.grownBy _⟩
  · refine (rise_yes L.cfg.rate L.cfg.delay L.cfg.period L.now L.ses (winC L.cfg L.now).1.lo (winC L.cfg L.now).1.hi (winC L.cfg L.now).2.1 L.up L.cfg.ws A A0 A1 b c L.l.fl.length L.r.fl.length c0 c1 L.l.wait L.r.wait L.l.arr L.r.arr w hs0 hs1 h.blk (fun w' hb => by have := hW w' hb; rw [hwc] at this; exact this)).mono ?_
    rintro e w' ⟨rfl, hb, hg⟩
    have e : riseL L = { L with up := true, ses := L.ses + 1, l := { L.l with arr := ⟨#[]⟩ }, r := { L.r with arr := ⟨#[]⟩ } } := by simp [riseL, hwc]
    rw [e]
    exact ⟨rfl, h.own hb hg rfl rfl rfl, hg⟩
end
end Go.Proofs.Ytnddahajfcmkiaa
