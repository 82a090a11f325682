/- The law's config: a line's description out of the reference's, at most 40 windows. Conditions: none. -/
import Derived.Test.YtnddahajfcmkiaaNcut
namespace Go.Proofs.Ytnddahajfcmkiaa
set_option linter.unusedSimpArgs false
set_option linter.unusedVariables false
set_option linter.unnecessarySimpa false
open Go.RowKit
def z35 : Value := .agg #[.int .i64 0, .int .i64 0, .int .i64 0, .slice none 0 0]
theorem info35z : (Try.prog.info? 35).map (fun i => (i.zero, i.size)) = some (some z35, 4) := by kernel_rfl
def Cfg4 (r d p : Int) (A : Option Addr) (n c : Nat) : List Value := [.int .i64 r, .int .i64 d, .int .i64 p, .slice A n c]
def ConfOk (c : Cfg) (w : World) (e : Ending) (w' : World) : Prop := ∃ A' cap' g', e = .returned (.agg (cfgc (cutC c) A' cap').toArray) ∧ Rd w' g' 2 A' (cutC c).ws.length ((cutC c).ws.flatMap winc) ∧ (cutC c).ws.length ≤ cap' ∧ (0 < (cutC c).ws.length → w.heap.size ≤ g') ∧ Below w.heap.size w w'
def P15 (B : Nat) (x : Wn) (v : Value) (w : World) : Prop := ∃ q, v = .slice (some ⟨q, 0, none⟩) 1 1 ∧ B ≤ q ∧ Blk w q 62 (winc x).toArray
theorem wp_slice62 {o : Oper} {a : Act} {w : World} {K : Act → World → Prop} {Q : Exit → Act → World → Prop} (x : Operand) (ho : o.op = .buildSlice 33 1 #[(0, x)]) (f : Wn) (hx : a.eval x = .agg (winc f).toArray)
    (h : ∀ w', Blk w' w.heap.size 62 (winc f).toArray → Below w.heap.size w w' → K (a.put o.dst (.slice (some ⟨w.heap.size, 0, none⟩) 1 1)) w') : o.wp Try.prog a w K Q := by
  obtain ⟨i0, hi0, hz0, hz1, _⟩ := info_parts info62'
  refine wp_buildSlice1 33 x ho 62 i0 z62 2 Try.underlying33 hi0 hz0 hz1 (.agg (winc f).toArray) (winc f) hx rfl rfl (by decide) ?_
  exact h _ (Blk.new w 62 (winc f).toArray) (bnew w _)
theorem grown_new {w y z : World} {r r2 : Option Nat} (h : w.grownBy y r) (h2 : y.grownBy z r2) (hr : ∀ k, r2 = some k → w.heap.size ≤ k) : w.grownBy z r :=
  ⟨h2.os.trans h.os, h2.tape.trans h.tape, h2.output.trans h.output, Nat.le_trans h.size h2.size, fun k hk hn => (h2.block k (Nat.lt_of_lt_of_le hk h.size) (fun e => by have := hr k e.symm; omega)).trans (h.block k hk hn)⟩
theorem own_base {w : World} {base e size n k : Nat} {v : Value} {xs : List Value} (h : w.ownsRow base e size v n xs) (hk : v.ownBlock = some k) : base ≤ k := by
  rcases h.2 with ⟨rfl, rfl⟩ | ⟨g, cap, cur, rfl, hb, _⟩
  · simp [Value.ownBlock] at hk
  · simp [Value.ownBlock] at hk
    omega
theorem take_snocW (ws : List Wn) (k : Nat) (h : k < ws.length) : (ws.take (k + 1)).flatMap winc = (ws.take k).flatMap winc ++ winc ws[k] := by
  rw [List.take_succ_eq_append_getElem h, List.flatMap_append]; simp
set_option maxRecDepth 20000 in
set_option maxHeartbeats 2000000 in
theorem config_any (c : Cfg) (g cap : Nat) (A : Option Addr) (w : World) (hr : Rd w g 2 A c.ws.length (c.ws.flatMap winc)) (hl : c.ws.length ≤ maxLen) :
    Calls Try.prog 16 #[.agg (cfgc c A cap).toArray] w (ConfOk c w) := by
  obtain ⟨r, d, p, ws⟩ := c
  have HR := Lib.hid hr
  obtain ⟨i0, hi0, hz0, hz1, hz2⟩ := info_parts info62'
  have HI0 := Lib.hid (And.intro hi0 (And.intro hz0 (And.intro hz1 hz2)))
  have hs1 : (w.alloc (.cells #[.int .i64 r, .int .i64 d, .int .i64 p, .slice A ws.length cap] 24)).heap.size = w.heap.size + 1 := by simp
  have hs2 : ((w.alloc (.cells #[.int .i64 r, .int .i64 d, .int .i64 p, .slice A ws.length cap] 24)).alloc (.cells #[.int .i64 0, .int .i64 0, .int .i64 0, .slice none 0 0] 35)).heap.size = w.heap.size + 2 := by simp
  have h1 := (Blk.new w 24 #[.int .i64 r, .int .i64 d, .int .i64 p, .slice A ws.length cap]).alloc (.cells #[.int .i64 0, .int .i64 0, .int .i64 0, .slice none 0 0] 35)
  have h2 := Blk.new (w.alloc (.cells #[.int .i64 r, .int .i64 d, .int .i64 p, .slice A ws.length cap] 24)) 35 #[.int .i64 0, .int .i64 0, .int .i64 0, .slice none 0 0]
  have h3 := Blk.new ((w.alloc (.cells #[.int .i64 r, .int .i64 d, .int .i64 p, .slice A ws.length cap] 24)).alloc (.cells #[.int .i64 0, .int .i64 0, .int .i64 0, .slice none 0 0] 35)) 35 #[.int .i64 r, .int .i64 d, .int .i64 p, .slice none 0 0]
  rw [hs1] at h2
  rw [hs2] at h3
  have H1 := Lib.hid (h1.alloc (.cells #[.int .i64 r, .int .i64 d, .int .i64 p, .slice none 0 0] 35))
  have H2 := Lib.hid (h2.alloc (.cells #[.int .i64 r, .int .i64 d, .int .i64 p, .slice none 0 0] 35))
  have H3 := Lib.hid h3
  have HB := Lib.hid (((bnew w (.cells #[.int .i64 r, .int .i64 d, .int .i64 p, .slice A ws.length cap] 24)).trans' (bnew _ (.cells #[.int .i64 0, .int .i64 0, .int .i64 0, .slice none 0 0] 35))).trans' (bnew _ (.cells #[.int .i64 r, .int .i64 d, .int .i64 p, .slice none 0 0] 35)))
  have hc0 : (w.alloc (.cells #[.int .i64 r, .int .i64 d, .int .i64 p, .slice A ws.length cap] 24)).heap.size = w.heap.size + 1 := hs1
  clear hr hi0 hz0 hz1 hz2 hs1 hs2 h1 h2 h3
  show Calls Try.prog 16 #[.agg #[.int .i64 r, .int .i64 d, .int .i64 p, .slice A ws.length cap]] w (ConfOk ⟨r, d, p, ws⟩ w)
  go_enter Try.func16, Try.ntmps16
  go_wp2_with (first
    | ((with_reducible refine at_dst 3 ?_); (refine wpList_var 35 [.int .i64 r, .int .i64 d, .int .i64 p, .slice none 0 0] _ Try.underlying35 z35 info35z rfl (by simp [Value.oneCell']) (by simp [Act.put]) rfl ?_)))
  generalize ((w.alloc (.cells #[.int .i64 r, .int .i64 d, .int .i64 p, .slice A ws.length cap] 24)).alloc (.cells #[.int .i64 0, .int .i64 0, .int .i64 0, .slice none 0 0] 35)).alloc (.cells #[.int .i64 r, .int .i64 d, .int .i64 p, .slice none 0 0] 35) = w1 at H1 H2 H3 HB ⊢
  clear hc0
  go_loopw [4] (fun iv wr => ∃ k : Nat, k ≤ ws.length ∧ k ≤ 40 ∧ iv = .int .i64 k ∧ Hid (∃ A' c', Blk wr (w.heap.size + 2) 35 (Cfg4 r d p A' k c').toArray ∧ wr.ownsRow w1.heap.size 62 2 (.slice A' k c') k ((ws.take k).flatMap winc)) ∧ Hid (w1.grownBy wr (some (w.heap.size + 2)))) (fun iv _ => ws.length - (intOf iv).toNat)
  case atStart => exact ⟨0, Nat.zero_le _, by omega, rfl, Lib.hid ⟨none, 0, H3.out, World.ownsRow_nil _ _ _ _⟩, Lib.hid ((Below.refl _ _).grownBy _)⟩
  case round =>
    obtain ⟨k, hk, hk40, rfl, HX, HG⟩ := hrel
    obtain ⟨A', c', hb3, ho⟩ := HX.out
    have HB3 := Lib.hid hb3
    have HO := Lib.hid ho
    have HLT := Lib.hid (And.intro H1.out.lt (And.intro H2.out.lt H3.out.lt))
    have HB1 : Hid (Blk wr w.heap.size 24 #[.int .i64 r, .int .i64 d, .int .i64 p, .slice A ws.length cap]) := Lib.hid (H1.out.grown HG.out (by simp))
    have HB2 : Hid (Blk wr (w.heap.size + 1) 35 #[.int .i64 0, .int .i64 0, .int .i64 0, .slice none 0 0]) := Lib.hid (H2.out.grown HG.out (by simp))
    have HBR : Hid (Below w.heap.size w wr) := Lib.hid (HB.out.grown HG.out HB.out.size (fun x hx => by simp at hx; omega))
    have hc3 : wr.cell? ⟨w.heap.size, 3, none⟩ = some (.slice A ws.length cap) := HB1.out.cell 3
    clear hb3 ho HX
    by_cases hlt : k < ws.length
    · by_cases h40 : k < 40
      · obtain ⟨hg, off, rfl, hc⟩ := (HR.out.below HBR.out).elem winc_len hlt rfl
        obtain ⟨lo, hi, hx⟩ : ∃ lo hi, ws[k] = ⟨lo, hi⟩ := ⟨_, _, rfl⟩
        have hlo : wr.cell? ⟨g, off + k * 2, none⟩ = some (.int .i64 lo) := by have := hc 0 (.int .i64 lo) (by rw [hx]; rfl); simpa using this
        have hhi : wr.cell? ⟨g, off + k * 2 + 1, none⟩ = some (.int .i64 hi) := hc 1 (.int .i64 hi) (by rw [hx]; rfl)
        have HC := Lib.hid (And.intro hg (And.intro hlo hhi))
        have HX := Lib.hid hx
        clear hg hc hlo hhi hx
        go_wp2
        clear hc3
        refine wp_region_seq (nt := 42) (by kernel_rfl) [0,1,2,3,4,5,6,7,8,9,10,11,12,13,14,15] [16,17,18] Rb Rb.refl Rb.trans [(15, P15 wr.heap.size ⟨lo, hi⟩)] (by kernel_rfl) (by simp) rfl (by kernel_rfl) (by simp) ⟨?_, trivial⟩ ?_
        · rintro v x y _ hR ⟨q, e, hq, hb⟩
          exact ⟨q, e, hq, hb.below hR⟩
        (refine' Sq.det (E := _) (b := _) (by rfl) (by rfl) (by rfl) (fun w' hR hf => ?_) ?_ ?_; rotate_left 2; (· (go_simp; first | done | with_reducible rfl)); (· (simp only [Act.put, List.setIfInBounds_toArray, List.set_cons_zero, List.set_cons_succ]; first | done | rfl)))
        (refine' Sq.det (E := _) (b := _) (by rfl) (by rfl) (by rfl) (fun w' hR hf => ?_) ?_ ?_; rotate_left 2; (· (have hc : w'.cell? ⟨w.heap.size + 2, 3, none⟩ = some (.slice A' k c') := (HB3.out.below (below_undrew hR)).cell 3; go_simp; first | done | with_reducible rfl)); (· (simp only [Act.put, List.setIfInBounds_toArray, List.set_cons_zero, List.set_cons_succ]; first | done | rfl)))
        (refine' Sq.det (E := _) (b := _) (by rfl) (by rfl) (by rfl) (fun w' hR hf => ?_) ?_ ?_; rotate_left 2; (· (go_simp; first | done | with_reducible rfl)); (· (simp only [Act.put, List.setIfInBounds_toArray, List.set_cons_zero, List.set_cons_succ]; first | done | rfl)))
        (refine' Sq.det (E := _) (b := _) (by rfl) (by rfl) (by rfl) (fun w' hR hf => ?_) ?_ ?_; rotate_left 2; (· (have hc : w'.cell? ⟨w.heap.size, 3, none⟩ = some (.slice (some ⟨g, off, none⟩) ws.length cap) := (HB1.out.below (below_undrew hR)).cell 3; go_simp; first | done | with_reducible rfl)); (· (simp only [Act.put, List.setIfInBounds_toArray, List.set_cons_zero, List.set_cons_succ]; first | done | rfl)))
        iterate 3 (refine' Sq.det (E := _) (b := _) (by rfl) (by rfl) (by rfl) (fun w' hR hf => ?_) ?_ ?_; rotate_left 2; (· (go_simp; first | done | with_reducible rfl)); (· (simp only [Act.put, List.setIfInBounds_toArray, List.set_cons_zero, List.set_cons_succ]; first | done | rfl)))
        (refine' Sq.det (E := _) (b := _) (by rfl) (by rfl) (by rfl) (fun w' hR hf => ?_) ?_ ?_; rotate_left 2; (· (have hc : w'.cell? ⟨g, off + k * 2, none⟩ = some (.int .i64 lo) := ((below_undrew hR).cell (p := ⟨g, _, none⟩) HC.out.1).trans HC.out.2.1; go_simp; first | done | with_reducible rfl)); (· (simp only [Act.put, List.setIfInBounds_toArray, List.set_cons_zero, List.set_cons_succ]; first | done | rfl)))
        (refine' Sq.det (E := _) (b := _) (by rfl) (by rfl) (by rfl) (fun w' hR hf => ?_) ?_ ?_; rotate_left 2; (· (go_simp; first | done | with_reducible rfl)); (· (simp only [Act.put, List.setIfInBounds_toArray, List.set_cons_zero, List.set_cons_succ]; first | done | rfl)))
        (refine' Sq.det (E := _) (b := _) (by rfl) (by rfl) (by rfl) (fun w' hR hf => ?_) ?_ ?_; rotate_left 2; (· (have hc : w'.cell? ⟨w.heap.size, 3, none⟩ = some (.slice (some ⟨g, off, none⟩) ws.length cap) := (HB1.out.below (below_undrew hR)).cell 3; go_simp; first | done | with_reducible rfl)); (· (simp only [Act.put, List.setIfInBounds_toArray, List.set_cons_zero, List.set_cons_succ]; first | done | rfl)))
        iterate 3 (refine' Sq.det (E := _) (b := _) (by rfl) (by rfl) (by rfl) (fun w' hR hf => ?_) ?_ ?_; rotate_left 2; (· (go_simp; first | done | with_reducible rfl)); (· (simp only [Act.put, List.setIfInBounds_toArray, List.set_cons_zero, List.set_cons_succ]; first | done | rfl)))
        (refine' Sq.det (E := _) (b := _) (by rfl) (by rfl) (by rfl) (fun w' hR hf => ?_) ?_ ?_; rotate_left 2; (· (have hc : w'.cell? ⟨g, off + k * 2 + 1, none⟩ = some (.int .i64 hi) := ((below_undrew hR).cell (p := ⟨g, _, none⟩) HC.out.1).trans HC.out.2.2; go_simp; first | done | with_reducible rfl)); (· (simp only [Act.put, List.setIfInBounds_toArray, List.set_cons_zero, List.set_cons_succ]; first | done | rfl)))
        (refine' Sq.det (E := _) (b := _) (by rfl) (by rfl) (by rfl) (fun w' hR hf => ?_) ?_ ?_; rotate_left 2; (· (go_simp; first | done | with_reducible rfl)); (· (simp only [Act.put, List.setIfInBounds_toArray, List.set_cons_zero, List.set_cons_succ]; first | done | rfl)))
        (refine' Sq.any (f := _) (by rfl) (by rfl) (by rfl) (fun w' hR hf => ?_) (fun v => ?_) (fun v15 => ?_); (· (refine wp_slice62 (.tmp 37) rfl ⟨lo, hi⟩ (by kernel_rfl) (fun w1 h1 h2 => ?_); exact ⟨rfl, h2, _, rfl, (below_undrew hR).size, h1⟩)); rotate_left 1; (· (simp only [Act.put, List.setIfInBounds_toArray, List.set_cons_zero, List.set_cons_succ]; first | done | rfl)))
        refine Sq.tail _ (by rfl) fun y hR hp => ?_
        obtain ⟨q, hq, hqB, hbq⟩ : P15 wr.heap.size ⟨lo, hi⟩ v15 y := hp 15 (by decide) _ rfl
        subst hq
        have HY : Hid (Below wr.heap.size wr y) := Lib.hid (below_undrew hR)
        have hoy := below_kept HO.out HY.out
        have hmx : k + 1 ≤ maxLen := by unfold maxLen; omega
        clear hR hp
        refine wpList_append_own_at y rfl (.tmp 24) (.tmp 38) 33 rfl w1.heap.size 62 i0 z62 2 16 Try.underlying33 HI0.out.1 HI0.out.2.1 HI0.out.2.2.1 HI0.out.2.2.2 rfl (by decide) (.slice A' k c') k ((ws.take k).flatMap winc) (by kernel_rfl) hoy ⟨q, 0, none⟩ 1 1 (winc ⟨lo, hi⟩) (by kernel_rfl) rfl (fun j u hu => by rw [Addr.add_lit, Nat.zero_add, hbq.cell, List.getElem?_toArray]; exact hu) (oneCell_winc _) hmx (by omega) (Nat.le_trans HG.out.size HY.out.size) ?_
        intro v2 y2 ho2 hg2 _ _
        obtain ⟨A2, c2, rfl⟩ := own_slice ho2
        have hb3 := (HB3.out.below HY.out).grown hg2 (Ne.symm (own_blk_ne hoy (HB3.out.below HY.out) (by decide)))
        have hG2 := grown_new ((HG.out.trans' (HY.out.grownBy (some (w.heap.size + 2))))) hg2 (fun k hk => own_base hoy hk)
        have HB3' := Lib.hid hb3
        have HO2 := Lib.hid ho2
        have HG2 := Lib.hid hG2
        have hc4 : y2.cell? ⟨w.heap.size + 2, 3, none⟩ = some (.slice A' k c') := hb3.cell 3
        have hf4 := hb3.frozen 3
        clear hoy hbq ho2 hg2 hb3 hG2
        go_wp2
        go_roundw
        case rel => exact ⟨k + 1, by omega, by omega, by go_num, Lib.hid ⟨A2, c2, HB3'.out.set_ 3 _, by rw [take_snocW ws k hlt, HX.out]; exact own_grown HO2.out (grownBy_setCell _ _ 3 _) HLT.out.2.2⟩, Lib.hid (HG2.out.trans' (grownBy_setCell _ _ 3 _))⟩
        case measure => simp [intOf]; omega
      · have hk4 : k = 40 := by omega
        have HN : Hid ((ws.take 40) = ws.take k) := Lib.hid (by rw [hk4])
        have HNL : Hid ((ws.take k).length = k) := Lib.hid (by rw [List.length_take]; omega)
        clear hk4
        go_wp2_with (first
          | ((with_reducible refine at_dst 41 ?_); (refine wpList_load_cells rfl 35 _ rfl (w.heap.size + 2) 0 (Cfg4 r d p A' k c') rfl _ Try.underlying35 rfl info35 (fun j u hu => ?_) ?_; (rw [Nat.zero_add, HB3.out.cell, List.getElem?_toArray]; exact hu)))
          | ((with_reducible refine at_store 35 2 ?_); (refine wpList_store_blk rfl 35 (.tmp 2) (.tmp 41) rfl (w.heap.size + 1) 0 35 [.int .i64 0, .int .i64 0, .int .i64 0, .slice none 0 0] (Cfg4 r d p A' k c') HB2.out (by rfl) (by rfl) info35 (by simp [Cfg4]) (by simp [Cfg4, Value.oneCell']) ?_; intro y3 hb3 hg3 _; simp only [List.take, List.drop, List.nil_append, Cfg4, List.length_cons, List.length_nil] at hb3)))
        have hr0 : y3.cell? ⟨w.heap.size + 1, 0, none⟩ = some (.int .i64 r) := hb3.cell 0
        have hr1 : y3.cell? ⟨w.heap.size + 1, 1, none⟩ = some (.int .i64 d) := hb3.cell 1
        have hr2 : y3.cell? ⟨w.heap.size + 1, 2, none⟩ = some (.int .i64 p) := hb3.cell 2
        have hr3 : y3.cell? ⟨w.heap.size + 1, 3, none⟩ = some (.slice A' k c') := hb3.cell 3
        refine bodyPost_ret (v := .agg #[.int .i64 r, .int .i64 d, .int .i64 p, .slice A' k c']) (by simp [results, Try.results16, go_sem, hr0, hr1, hr2, hr3]) rfl ?_
        have ho3 := own_grown HO.out hg3 HLT.out.2.1
        obtain ⟨g', hrd, hcc, hgb⟩ := Rd.own ho3
        refine ⟨A', c', g', ?_, ?_, ?_, ?_, HBR.out.grown hg3 HBR.out.size (fun x hx => by simp at hx; omega)⟩
        · simp only [cutC, cfgc, HN.out, HNL.out]
        · simp only [cutC, HN.out, HNL.out]; exact hrd
        · simp only [cutC, HN.out, HNL.out]; exact hcc
        · simp only [cutC, HN.out, HNL.out]; exact fun h => Nat.le_trans HB.out.size (hgb h)
    · have hk4 : k = ws.length := by omega
      have HN : Hid ((ws.take 40) = ws.take k) := Lib.hid (by rw [hk4, List.take_length, List.take_of_length_le (by omega)])
      have HNL : Hid ((ws.take k).length = k) := Lib.hid (by rw [List.length_take]; omega)
      clear hk4
      go_wp2_with (first
        | ((with_reducible refine at_dst 41 ?_); (refine wpList_load_cells rfl 35 _ rfl (w.heap.size + 2) 0 (Cfg4 r d p A' k c') rfl _ Try.underlying35 rfl info35 (fun j u hu => ?_) ?_; (rw [Nat.zero_add, HB3.out.cell, List.getElem?_toArray]; exact hu)))
        | ((with_reducible refine at_store 35 2 ?_); (refine wpList_store_blk rfl 35 (.tmp 2) (.tmp 41) rfl (w.heap.size + 1) 0 35 [.int .i64 0, .int .i64 0, .int .i64 0, .slice none 0 0] (Cfg4 r d p A' k c') HB2.out (by rfl) (by rfl) info35 (by simp [Cfg4]) (by simp [Cfg4, Value.oneCell']) ?_; intro y3 hb3 hg3 _; simp only [List.take, List.drop, List.nil_append, Cfg4, List.length_cons, List.length_nil] at hb3)))
      have hr0 : y3.cell? ⟨w.heap.size + 1, 0, none⟩ = some (.int .i64 r) := hb3.cell 0
      have hr1 : y3.cell? ⟨w.heap.size + 1, 1, none⟩ = some (.int .i64 d) := hb3.cell 1
      have hr2 : y3.cell? ⟨w.heap.size + 1, 2, none⟩ = some (.int .i64 p) := hb3.cell 2
      have hr3 : y3.cell? ⟨w.heap.size + 1, 3, none⟩ = some (.slice A' k c') := hb3.cell 3
      refine bodyPost_ret (v := .agg #[.int .i64 r, .int .i64 d, .int .i64 p, .slice A' k c']) (by simp [results, Try.results16, go_sem, hr0, hr1, hr2, hr3]) rfl ?_
      have ho3 := own_grown HO.out hg3 HLT.out.2.1
      obtain ⟨g', hrd, hcc, hgb⟩ := Rd.own ho3
      refine ⟨A', c', g', ?_, ?_, ?_, ?_, HBR.out.grown hg3 HBR.out.size (fun x hx => by simp at hx; omega)⟩
      · simp only [cutC, cfgc, HN.out, HNL.out]
      · simp only [cutC, HN.out, HNL.out]; exact hrd
      · simp only [cutC, HN.out, HNL.out]; exact hcc
      · simp only [cutC, HN.out, HNL.out]; exact fun h => Nat.le_trans HB.out.size (hgb h)
end Go.Proofs.Ytnddahajfcmkiaa
