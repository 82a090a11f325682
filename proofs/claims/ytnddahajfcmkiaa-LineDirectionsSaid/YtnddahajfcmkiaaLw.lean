/- The line: pass. Conditions: a valid line. -/
import Derived.Test.YtnddahajfcmkiaaLx
namespace Go.Proofs.Ytnddahajfcmkiaa
set_option linter.unusedSimpArgs false
set_option linter.unusedVariables false
set_option linter.unnecessarySimpa false
open Go.RowKit
section
variable {F : Nat → Prop} {B b c gw : Nat} {A : Option Addr} {w w' : World} {L : Ln}
theorem POwn.below (h : POwn F B w b L gw A c) (hb : Below w.heap.size w w') : POwn F B w' b L gw A c := by
  obtain ⟨g0, g1, A0, A1, c0, c1, h1, h2, h3, h4⟩ := h
  exact ⟨g0, g1, A0, A1, c0, c1, h1.below hb, h2, h3, h4⟩
end
section
variable {r d p now ses : Int} {ws : List Wn} {up : Bool} {E0 E1 : Ed} {x a : ByteArray} {f : List Fl} {k : Nat}
theorem launchE_z (h : x.size = 0) : launchE r now d ⟨x, f, a⟩ = ⟨x, f, a⟩ := by simp [launchE, h]
theorem launchE_p (h : ¬ x.size = 0) : launchE r now d ⟨x, f, a⟩ = ⟨x.extract (recN r x.size) x.size, f ++ [⟨now + 1 + d, x.extract 0 (recN r x.size)⟩], a⟩ := by simp [launchE, h]
theorem lk0 : launchL 0 ⟨⟨r, d, p, ws⟩, now, up, ses, E0, E1⟩ = ⟨⟨r, d, p, ws⟩, now, up, ses, E0, E1⟩ := by simp [launchL]
theorem lk1 : launchL 1 ⟨⟨r, d, p, ws⟩, now, up, ses, E0, E1⟩ = ⟨⟨r, d, p, ws⟩, now, up, ses, launchE r now d E0, E1⟩ := by simp [launchL]
theorem lk2 : launchL 2 ⟨⟨r, d, p, ws⟩, now, up, ses, E0, E1⟩ = ⟨⟨r, d, p, ws⟩, now, up, ses, launchE r now d E0, launchE r now d E1⟩ := by simp [launchL]
theorem lk_step0 (h : x.size = 0) : launchL 1 ⟨⟨r, d, p, ws⟩, now, up, ses, ⟨x, f, a⟩, E1⟩ = ⟨⟨r, d, p, ws⟩, now, up, ses, ⟨x, f, a⟩, E1⟩ := by rw [lk1, launchE_z h]
theorem lk_step0p (h : ¬ x.size = 0) (hk : k = recN r x.size) : launchL 1 ⟨⟨r, d, p, ws⟩, now, up, ses, ⟨x, f, a⟩, E1⟩ = ⟨⟨r, d, p, ws⟩, now, up, ses, ⟨x.extract k x.size, f ++ [⟨now + 1 + d, x.extract 0 k⟩], a⟩, E1⟩ := by subst hk; rw [lk1, launchE_p h]
theorem lk_step1 (h : x.size = 0) : launchL 2 ⟨⟨r, d, p, ws⟩, now, up, ses, E0, ⟨x, f, a⟩⟩ = ⟨⟨r, d, p, ws⟩, now, up, ses, launchE r now d E0, ⟨x, f, a⟩⟩ := by rw [lk2, launchE_z h]
theorem lk_step1p (h : ¬ x.size = 0) (hk : k = recN r x.size) : launchL 2 ⟨⟨r, d, p, ws⟩, now, up, ses, E0, ⟨x, f, a⟩⟩ = ⟨⟨r, d, p, ws⟩, now, up, ses, launchE r now d E0, ⟨x.extract k x.size, f ++ [⟨now + 1 + d, x.extract 0 k⟩], a⟩⟩ := by subst hk; rw [lk2, launchE_p h]
end
theorem launchE_len {r now d : Int} {e : Ed} : (launchE r now d e).fl.length ≤ e.fl.length + 1 := by unfold launchE; split <;> simp
theorem launchE_tot {r now d : Int} {e : Ed} : (launchE r now d e).wait.size + wayN (launchE r now d e).fl = e.wait.size + wayN e.fl ∧ (launchE r now d e).arr = e.arr := by
  unfold launchE
  split
  · exact ⟨rfl, rfl⟩
  · have hk : recN r e.wait.size ≤ e.wait.size := by unfold recN; omega
    refine ⟨?_, rfl⟩
    simp only [ByteArray.size_extract, wayN, List.map_append, List.sum_append, List.map_cons, List.map_nil, List.sum_cons, List.sum_nil]
    omega
def passEnd (ok : Bool) (L : Ln) : Ln := if ok = true then L else fallL L
set_option maxRecDepth 100000 in
set_option maxHeartbeats 8000000 in
theorem pass_up {F : Nat → Prop} {B : Nat} (r d p now nn ses : Int) (ws : List Wn) (x0 x1 a0 a1 : ByteArray) (f0 f1 : List Fl) (b c gw : Nat) (A : Option Addr) (w : World)
    (hL : POwn F B w b ⟨⟨r, d, p, ws⟩, now, true, ses, ⟨x0, f0, a0⟩, ⟨x1, f1, a1⟩⟩ gw A c) (hB : B ≤ w.heap.size) (hn0 : f0.length ≤ 999999) (hn1 : f1.length ≤ 999999) (hr1 : 0 < r) (hnn : nn = now + 1) (hrg : 0 ≤ nn ∧ nn ≤ 10000000 ∧ 0 ≤ ses ∧ ses ≤ 1000000000) (hok : chkC ⟨r, d, p, ws⟩ = 0) (hnow : 0 ≤ now ∧ now ≤ 10000000) (hd : 0 ≤ d ∧ d ≤ 1440)
    (hm0 : a1.size + wayN f0 + x0.size ≤ 1099511627776) (hm1 : a0.size + wayN f1 + x1.size ≤ 1099511627776) :
    Calls Try.prog 51 #[.pointer (some ⟨b, 0, none⟩)] w fun e w' => e = .returned (.tuple #[]) ∧ POwn F B w' b (passEnd (winC ⟨r, d, p, ws⟩ nn).2.2 (dlvL 2 ⟨⟨r, d, p, ws⟩, nn, true, ses, launchE r now d ⟨x0, f0, a0⟩, launchE r now d ⟨x1, f1, a1⟩⟩)) gw A c ∧ Keep F B w w' := by
  have hc5 : w.cell? ⟨b, 5, none⟩ = some (.bool true) := by obtain ⟨g0, g1, A0, A1, c0, c1, h1, _⟩ := hL; exact h1.blk.cell 5
  have HLP := Lib.hid hL
  have HR1 := Lib.hid hr1
  have HBB := Lib.hid hB
  have HNN := Lib.hid (And.intro hn0 hn1)
  have HW1 : Hid (IntKind.i64.wrap (now + 1) = now + 1) := Lib.hid (IntWalk.i64_in _ (by omega))
  have HW2 : Hid (IntKind.i64.wrap (now + 1 + d) = now + 1 + d) := Lib.hid (IntWalk.i64_in _ (by omega))
  have HM := Lib.hid (And.intro hm0 hm1)
  have HNN1 := Lib.hid hnn
  have HOK := Lib.hid hok
  have HRG := Lib.hid hrg
  have hnow1 : 0 ≤ now + 1 ∧ now + 1 ≤ 10000000 := by omega
  clear hL hr1 hB hn0 hn1 hnow hd hm0 hm1 hnn hrg hok
  go_enter Try.func51, Try.ntmps51
  go_wp2
  clear hc5
  go_loopw [15] (fun kv wr => ∃ k : Nat, k ≤ 2 ∧ kv = .int .i64 k ∧ Hid (POwn F B wr b (launchL k ⟨⟨r, d, p, ws⟩, now, true, ses, ⟨x0, f0, a0⟩, ⟨x1, f1, a1⟩⟩) gw A c) ∧ Hid (Keep F B w wr)) (fun kv _ => 2 - (intOf kv).toNat)
  case atStart => exact ⟨0, by omega, rfl, Lib.hid (by rw [lk0]; exact HLP.out), Lib.hid (Keep.refl _ _ _)⟩
  case round =>
    obtain ⟨k, hk, rfl, HOWN', HKP⟩ := hrel
    have HBS := Lib.hid (Nat.le_trans HBB.out HKP.out.size)
    rcases (by omega : k = 0 ∨ k = 1 ∨ k = 2) with rfl | rfl | rfl
    · have HOWN := Lib.hid HOWN'.out
      rw [lk0] at HOWN
      obtain ⟨g0, g1, A0, A1, c0, c1, hln, hf1, hf2, hf3⟩ := HOWN.out
      have HLN := Lib.hid hln
      have HFF := Lib.hid (And.intro hf1 (And.intro hf2 hf3))
      have HN0 := Lib.hid (show f0.length ≤ 1000000 by have := HNN.out; omega)
      have HBL : Hid (Blk wr b 87 (L87 r d p A ws.length c now true ses x0 A0 f0.length c0 a0 x1 A1 f1.length c1 a1).toArray) := Lib.hid hln.blk
      clear hln hf1 hf2 hf3 HOWN'
      go_wp2
      have HV1 := Lib.hid (Blk.new wr 98 #[.pointer (some ⟨b, 7, none⟩)])
      have HB1 := Lib.hid (HBL.out.alloc (.cells #[.pointer (some ⟨b, 7, none⟩)] 98))
      refine wp_region_seq (nt := 158) (by kernel_rfl) [0,1,2,3,4,5,6,7,8,9,10,11] [] Rb Rb.refl Rb.trans [] (by kernel_rfl) (by simp) rfl (by kernel_rfl) (by simp) trivial ?_
      iterate 4 (refine' Sq.det (E := _) (b := _) (by rfl) (by rfl) (by rfl) (fun w' hR hf => ?_) ?_ ?_; rotate_left 2; (· (go_simp; first | done | with_reducible rfl)); (· (simp only [Act.put, List.setIfInBounds_toArray, List.set_cons_zero, List.set_cons_succ]; first | done | rfl)))
      (refine' Sq.det (E := _) (b := _) (by rfl) (by rfl) (by rfl) (fun w' hR hf => ?_) ?_ ?_; rotate_left 2; (· (have hc : w'.cell? ⟨b, 0, none⟩ = some (.int .i64 r) := (HB1.out.below (below_undrew hR)).cell 0; go_simp; first | done | with_reducible rfl)); (· (simp only [Act.put, List.setIfInBounds_toArray, List.set_cons_zero, List.set_cons_succ]; first | done | rfl)))
      (refine' Sq.det (E := _) (b := _) (by rfl) (by rfl) (by rfl) (fun w' hR hf => ?_) ?_ ?_; rotate_left 2; (· (have hc : w'.cell? ⟨wr.heap.size, 0, none⟩ = some (.pointer (some ⟨b, 7, none⟩)) := (HV1.out.below (below_undrew hR)).cell 0; go_simp; first | done | with_reducible rfl)); (· (simp only [Act.put, List.setIfInBounds_toArray, List.set_cons_zero, List.set_cons_succ]; first | done | rfl)))
      iterate 2 (refine' Sq.det (E := _) (b := _) (by rfl) (by rfl) (by rfl) (fun w' hR hf => ?_) ?_ ?_; rotate_left 2; (· (go_simp; first | done | with_reducible rfl)); (· (simp only [Act.put, List.setIfInBounds_toArray, List.set_cons_zero, List.set_cons_succ]; first | done | rfl)))
      (refine' Sq.det (E := _) (b := _) (by rfl) (by rfl) (by rfl) (fun w' hR hf => ?_) ?_ ?_; rotate_left 2; (· (have hc : w'.cell? ⟨b, 7, none⟩ = some (.string x0) := (HB1.out.below (below_undrew hR)).cell 7; go_simp; first | done | with_reducible rfl)); (· (simp only [Act.put, List.setIfInBounds_toArray, List.set_cons_zero, List.set_cons_succ]; first | done | rfl)))
      iterate 3 (refine' Sq.det (E := _) (b := _) (by rfl) (by rfl) (by rfl) (fun w' hR hf => ?_) ?_ ?_; rotate_left 2; (· (go_simp; first | done | with_reducible rfl)); (· (simp only [Act.put, List.setIfInBounds_toArray, List.set_cons_zero, List.set_cons_succ]; first | done | rfl)))
      refine Sq.done fun y hR _ => ?_
      obtain ⟨k, hk1, hk2, hk3, hk4⟩ := minI r x0.size HR1.out
      rw [hk1]
      have HK := Lib.hid (And.intro hk1 (And.intro hk2 hk3))
      have HBY := Lib.hid ((bnew wr (.cells #[.pointer (some ⟨b, 7, none⟩)] 98)).trans' (below_undrew hR))
      have HV2 := Lib.hid (HV1.out.below (below_undrew hR))
      have HB2 := Lib.hid (HB1.out.below (below_undrew hR))
      have HO2 := Lib.hid (HLN.out.t0.keep (w' := y) fun hc => HBY.out.block g0 (HLN.out.t0.lt hc))
      clear hk1 hk2 hk3 hR
      by_cases hz : x0.size = 0
      · have hk0 : k = 0 := by have := HK.out.2.2; omega
        subst hk0
        clear hk4
        go_wp2
        go_roundw
        case rel => exact ⟨1, by omega, by go_num, Lib.hid (by rw [lk_step0 hz]; exact HOWN.out.below HBY.out), Lib.hid (HKP.out.trans (Keep.of_below HBY.out))⟩
        case measure => simp [intOf]
      · have hk0 := hk4 (by omega)
        have HZ := Lib.hid hz
        clear hk4 hz
        go_wp2
        have hgb : 0 < c0 → g0 ≠ b := fun hc => by
          obtain ⟨off, cur, e, hb, h1, h2⟩ := HO2.out.2.2 hc
          exact hb.ne_ HB2.out (by decide)
        have hgv : 0 < c0 → g0 ≠ wr.heap.size := fun hc => by
          obtain ⟨off, cur, e, hb, h1, h2⟩ := HO2.out.2.2 hc
          exact hb.ne_ HV2.out (by decide)
        have hbv : wr.heap.size ≠ b := HV2.out.ne_ HB2.out (by decide)
        have HGB := Lib.hid hgb
        have HGV := Lib.hid hgv
        have HBV := Lib.hid hbv
        clear hgb hgv hbv
        refine wp_region_tok (nt := 158) (by kernel_rfl) [0,1,2,3,4,5,6,7,8,9,10,11,12,13,14,15,16,17,18,19,20,21] [22,23,24] (RP b g0 c0 f0.length A0 (f0.flatMap flc ++ flc ⟨now + 1 + d, x0.extract 0 k⟩) (fun s => (L87 r d p A ws.length c now true ses s A0 f0.length c0 a0 x1 A1 f1.length c1 a1).toArray) (x0.extract k x0.size)) RP.refl RP.trans [(18, P18 b (x0.extract 0 k) (x0.extract k x0.size) (fun s => (L87 r d p A ws.length c now true ses s A0 f0.length c0 a0 x1 A1 f1.length c1 a1).toArray)), (20, P20 y.heap.size ⟨now + 1 + d, x0.extract 0 k⟩), (21, P21 y.heap.size g0 f0.length c0 A0 (f0.flatMap flc ++ flc ⟨now + 1 + d, x0.extract 0 k⟩))] (by kernel_rfl) (by simp) rfl (by kernel_rfl) (by simp) ?stab (T8 b g0 f0.length c0 A0 (f0.flatMap flc) ((fun s => (L87 r d p A ws.length c now true ses s A0 f0.length c0 a0 x1 A1 f1.length c1 a1).toArray) x0)) ?tok ?_
        case stab => exact ⟨fun v x y _ hR h => h.rp hR, fun v x y _ hR h => h.rp hR HB2.out.lt (fun hc => HO2.out.lt hc), fun v x y _ hR h => h.rp hR HB2.out.lt (fun hc => HO2.out.lt hc), trivial⟩
        case tok => exact fun i => ⟨fun _ => HB2.out, fun _ => HO2.out⟩
        have HBW := Lib.hid (fun (w' : World) (hR : RP b g0 c0 f0.length A0 (f0.flatMap flc ++ flc ⟨now + 1 + d, x0.extract 0 k⟩) (fun s => (L87 r d p A ws.length c now true ses s A0 f0.length c0 a0 x1 A1 f1.length c1 a1).toArray) (x0.extract k x0.size) y.drew w') => (show ∃ s', Blk w' b 87 ((fun s => (L87 r d p A ws.length c now true ses s A0 f0.length c0 a0 x1 A1 f1.length c1 a1).toArray) s') from by obtain ⟨_, _, _, _, _, h6, _⟩ := hR; obtain ⟨s', h, _⟩ := h6 x0 HB2.out; exact ⟨s', h⟩))
        have HVW := Lib.hid (fun (w' : World) (hR : RP b g0 c0 f0.length A0 (f0.flatMap flc ++ flc ⟨now + 1 + d, x0.extract 0 k⟩) (fun s => (L87 r d p A ws.length c now true ses s A0 f0.length c0 a0 x1 A1 f1.length c1 a1).toArray) (x0.extract k x0.size) y.drew w') => (show Blk w' wr.heap.size 98 #[.pointer (some ⟨b, 7, none⟩)] from hR.blk HV2.out HBV.out (fun hc e => HGV.out hc e.symm)))
        iterate 2 (refine' St.det (E := _) (b := _) (by rfl) (by rfl) (by rfl) (fun w' hR hf => ?_) ?_ ?_; rotate_left 2; (· (have hc : w'.cell? ⟨wr.heap.size, 0, none⟩ = some (.pointer (some ⟨b, 7, none⟩)) := (HVW.out w' hR).cell 0; go_simp; first | done | with_reducible rfl)); (· (simp only [Act.put, List.setIfInBounds_toArray, List.set_cons_zero, List.set_cons_succ]; first | done | rfl)))
        iterate 2 (refine' St.det (E := _) (b := _) (by rfl) (by rfl) (by rfl) (fun w' hR hf => ?_) ?_ ?_; rotate_left 2; (· (go_simp; first | done | with_reducible rfl)); (· (simp only [Act.put, List.setIfInBounds_toArray, List.set_cons_zero, List.set_cons_succ]; first | done | rfl)))
        (refine' St.det (E := _) (b := _) (by rfl) (by rfl) (by rfl) (fun w' hR hf => ?_) ?_ ?_; rotate_left 2; (· (obtain ⟨s', hb'⟩ := HBW.out w' hR; have hc : w'.cell? ⟨b, 8, none⟩ = some (.slice A0 f0.length c0) := hb'.cell 8; go_simp; first | done | with_reducible rfl)); (· (simp only [Act.put, List.setIfInBounds_toArray, List.set_cons_zero, List.set_cons_succ]; first | done | rfl)))
        iterate 3 (refine' St.det (E := _) (b := _) (by rfl) (by rfl) (by rfl) (fun w' hR hf => ?_) ?_ ?_; rotate_left 2; (· (go_simp; first | done | with_reducible rfl)); (· (simp only [Act.put, List.setIfInBounds_toArray, List.set_cons_zero, List.set_cons_succ]; first | done | rfl)))
        (refine' St.det (E := _) (b := _) (by rfl) (by rfl) (by rfl) (fun w' hR hf => ?_) ?_ ?_; rotate_left 2; (· (obtain ⟨s', hb'⟩ := HBW.out w' hR; have hc : w'.cell? ⟨b, 4, none⟩ = some (.int .i64 now) := hb'.cell 4; go_simp; first | done | with_reducible rfl)); (· (simp only [Act.put, List.setIfInBounds_toArray, List.set_cons_zero, List.set_cons_succ]; first | done | rfl)))
        (refine' St.det (E := _) (b := _) (by rfl) (by rfl) (by rfl) (fun w' hR hf => ?_) ?_ ?_; rotate_left 2; (· (have hc := HW1.out; go_simp; first | done | with_reducible rfl)); (· (simp only [Act.put, List.setIfInBounds_toArray, List.set_cons_zero, List.set_cons_succ]; first | done | rfl)))
        iterate 4 (refine' St.det (E := _) (b := _) (by rfl) (by rfl) (by rfl) (fun w' hR hf => ?_) ?_ ?_; rotate_left 2; (· (go_simp; first | done | with_reducible rfl)); (· (simp only [Act.put, List.setIfInBounds_toArray, List.set_cons_zero, List.set_cons_succ]; first | done | rfl)))
        (refine' St.det (E := _) (b := _) (by rfl) (by rfl) (by rfl) (fun w' hR hf => ?_) ?_ ?_; rotate_left 2; (· (obtain ⟨s', hb'⟩ := HBW.out w' hR; have hc : w'.cell? ⟨b, 1, none⟩ = some (.int .i64 d) := hb'.cell 1; go_simp; first | done | with_reducible rfl)); (· (simp only [Act.put, List.setIfInBounds_toArray, List.set_cons_zero, List.set_cons_succ]; first | done | rfl)))
        (refine' St.det (E := _) (b := _) (by rfl) (by rfl) (by rfl) (fun w' hR hf => ?_) ?_ ?_; rotate_left 2; (· (have hc := HW2.out; go_simp; first | done | with_reducible rfl)); (· (simp only [Act.put, List.setIfInBounds_toArray, List.set_cons_zero, List.set_cons_succ]; first | done | rfl)))
        iterate 2 (refine' St.det (E := _) (b := _) (by rfl) (by rfl) (by rfl) (fun w' hR hf => ?_) ?_ ?_; rotate_left 2; (· (go_simp; first | done | with_reducible rfl)); (· (simp only [Act.put, List.setIfInBounds_toArray, List.set_cons_zero, List.set_cons_succ]; first | done | rfl)))
        (refine' St.any (f := _) (by rfl) (by rfl) (by rfl) (fun w' hR hf ht => ?_) (fun v => ?_) (fun v18 => ?_); (· (have hb18 := ht.1 rfl; go_wp2_with (go_at_call 59; refine (take_any k x0 wr.heap.size b 7 w' (HVW.out w' hR) (hb18.cell 7) (hb18.frozen 7) HK.out.2.2).mono ?_; rintro e w1 ⟨he, hw1⟩; subst he hw1); exact ⟨RP.step18 hb18 rfl HGB.out, fun j hj => T8.step18 HGB.out hj, rfl, hb18.set_ 7 _⟩)); rotate_left 1; (· (simp only [Act.put, List.setIfInBounds_toArray, List.set_cons_zero, List.set_cons_succ]; first | done | rfl)))
        (refine' St.det (E := _) (b := _) (by rfl) (by rfl) (by rfl) (fun w' hR hf => ?_) ?_ ?_; rotate_left 2; (· (obtain ⟨rfl, _⟩ : P18 b (x0.extract 0 k) (x0.extract k x0.size) (fun s => (L87 r d p A ws.length c now true ses s A0 f0.length c0 a0 x1 A1 f1.length c1 a1).toArray) v18 w' := hf 18 (by decide) _ rfl; exact exec_build95 (.tmp 52) (.tmp 55) ⟨now + 1 + d, x0.extract 0 k⟩ (by kernel_rfl) (by kernel_rfl))); (· (simp only [Act.put, List.setIfInBounds_toArray, List.set_cons_zero, List.set_cons_succ]; first | done | rfl)))
        (refine' St.any (f := _) (by rfl) (by rfl) (by rfl) (fun w' hR hf ht => ?_) (fun v => ?_) (fun v20 => ?_); (· (refine wp_slice95 (.tmp 56) rfl ⟨now + 1 + d, x0.extract 0 k⟩ (by kernel_rfl) (fun w1 h1 h2 => ?_); exact ⟨rfl, RP.of_below (fun hc => Nat.lt_of_lt_of_le (HO2.out.lt hc) hR.2.2.2.1) h2, fun j _ h => h.below h2, _, rfl, hR.2.2.2.1, h1⟩)); rotate_left 1; (· (simp only [Act.put, List.setIfInBounds_toArray, List.set_cons_zero, List.set_cons_succ]; first | done | rfl)))
        (refine' St.any (f := _) (by rfl) (by rfl) (by rfl) (fun w' hR hf ht => ?_) (fun v => ?_) (fun v21 => ?_); (· (obtain ⟨q, hq, hqB, hbq⟩ : P20 y.heap.size ⟨now + 1 + d, x0.extract 0 k⟩ v20 w' := hf 20 (by decide) _ rfl; subst hq; have hO := ht.2 rfl; refine wp_append_OT (.tmp 41) (.tmp 57) rfl g0 f0.length c0 A0 (f0.flatMap flc) (by kernel_rfl) hO HN0.out ⟨now + 1 + d, x0.extract 0 k⟩ q 1 (by kernel_rfl) hbq (fun v w1 ha => ?_); exact ⟨rfl, RP.step21 hO HGB.out ha, fun j hj h => T8.step21 HGB.out hj h ha, P21.of ha hR.2.2.2.1⟩)); rotate_left 1; (· (simp only [Act.put, List.setIfInBounds_toArray, List.set_cons_zero, List.set_cons_succ]; first | done | rfl)))
        refine St.tail _ (by rfl) fun w6 hR hp => ?_
        have h18 : P18 b (x0.extract 0 k) (x0.extract k x0.size) (fun s => (L87 r d p A ws.length c now true ses s A0 f0.length c0 a0 x1 A1 f1.length c1 a1).toArray) v18 w6 := hp 18 (by decide) _ rfl
        have h21 : P21 y.heap.size g0 f0.length c0 A0 (f0.flatMap flc ++ flc ⟨now + 1 + d, x0.extract 0 k⟩) v21 w6 := hp 21 (by decide) _ rfl
        have FIN := Lib.hid (launch_fin0 HLN.out HBS.out HFF.out.1 HFF.out.2.1 HFF.out.2.2 HBY.out hR h18.2 h21)
        have hv21 : ∃ a1 n1 c1, v21 = .slice a1 n1 c1 := by
          rcases h21 with ⟨_, e, _⟩ | ⟨_, _, _, e, _⟩
          · exact ⟨_, _, _, e⟩
          · exact ⟨_, _, _, e⟩
        obtain ⟨qa, qn, qc, hq21⟩ := hv21
        subst hq21
        have hcf : w6.cell? ⟨b, 8, none⟩ = some (.slice A0 f0.length c0) := h18.2.cell 8
        have hff := h18.2.frozen 8
        clear hR hp h18 h21 HBW HVW
        go_wp2
        go_roundw
        case rel => exact ⟨1, by omega, by go_num, Lib.hid (by rw [lk_step0p HZ.out HK.out.2.1]; exact FIN.out.1), Lib.hid (HKP.out.trans FIN.out.2)⟩
        case measure => simp [intOf]
    · obtain ⟨e0, he0⟩ : ∃ e, launchE r now d ⟨x0, f0, a0⟩ = e := ⟨_, rfl⟩
      have hlen0 := launchE_len (r := r) (now := now) (d := d) (e := ⟨x0, f0, a0⟩)
      rw [he0] at hlen0
      have HOWN := Lib.hid HOWN'.out
      rw [lk1, he0] at HOWN
      have HE0 := Lib.hid he0
      have HN1 := Lib.hid (show f1.length ≤ 1000000 by have := HNN.out; omega)
      clear he0 HOWN' hlen0
      obtain ⟨x0, f0, a0⟩ := e0
      obtain ⟨g0, g1, A0, A1, c0, c1, hln, hf1, hf2, hf3⟩ := HOWN.out
      have HLN := Lib.hid hln
      have HFF := Lib.hid (And.intro hf1 (And.intro hf2 hf3))
      have HBL : Hid (Blk wr b 87 (L87 r d p A ws.length c now true ses x0 A0 f0.length c0 a0 x1 A1 f1.length c1 a1).toArray) := Lib.hid hln.blk
      clear hln hf1 hf2 hf3
      go_wp2
      have HV1 := Lib.hid (Blk.new wr 98 #[.pointer (some ⟨b, 10, none⟩)])
      have HB1 := Lib.hid (HBL.out.alloc (.cells #[.pointer (some ⟨b, 10, none⟩)] 98))
      refine wp_region_seq (nt := 158) (by kernel_rfl) [0,1,2,3,4,5,6,7,8,9,10,11] [] Rb Rb.refl Rb.trans [] (by kernel_rfl) (by simp) rfl (by kernel_rfl) (by simp) trivial ?_
      iterate 4 (refine' Sq.det (E := _) (b := _) (by rfl) (by rfl) (by rfl) (fun w' hR hf => ?_) ?_ ?_; rotate_left 2; (· (go_simp; first | done | with_reducible rfl)); (· (simp only [Act.put, List.setIfInBounds_toArray, List.set_cons_zero, List.set_cons_succ]; first | done | rfl)))
      (refine' Sq.det (E := _) (b := _) (by rfl) (by rfl) (by rfl) (fun w' hR hf => ?_) ?_ ?_; rotate_left 2; (· (have hc : w'.cell? ⟨b, 0, none⟩ = some (.int .i64 r) := (HB1.out.below (below_undrew hR)).cell 0; go_simp; first | done | with_reducible rfl)); (· (simp only [Act.put, List.setIfInBounds_toArray, List.set_cons_zero, List.set_cons_succ]; first | done | rfl)))
      (refine' Sq.det (E := _) (b := _) (by rfl) (by rfl) (by rfl) (fun w' hR hf => ?_) ?_ ?_; rotate_left 2; (· (have hc : w'.cell? ⟨wr.heap.size, 0, none⟩ = some (.pointer (some ⟨b, 10, none⟩)) := (HV1.out.below (below_undrew hR)).cell 0; go_simp; first | done | with_reducible rfl)); (· (simp only [Act.put, List.setIfInBounds_toArray, List.set_cons_zero, List.set_cons_succ]; first | done | rfl)))
      iterate 2 (refine' Sq.det (E := _) (b := _) (by rfl) (by rfl) (by rfl) (fun w' hR hf => ?_) ?_ ?_; rotate_left 2; (· (go_simp; first | done | with_reducible rfl)); (· (simp only [Act.put, List.setIfInBounds_toArray, List.set_cons_zero, List.set_cons_succ]; first | done | rfl)))
      (refine' Sq.det (E := _) (b := _) (by rfl) (by rfl) (by rfl) (fun w' hR hf => ?_) ?_ ?_; rotate_left 2; (· (have hc : w'.cell? ⟨b, 10, none⟩ = some (.string x1) := (HB1.out.below (below_undrew hR)).cell 10; go_simp; first | done | with_reducible rfl)); (· (simp only [Act.put, List.setIfInBounds_toArray, List.set_cons_zero, List.set_cons_succ]; first | done | rfl)))
      iterate 3 (refine' Sq.det (E := _) (b := _) (by rfl) (by rfl) (by rfl) (fun w' hR hf => ?_) ?_ ?_; rotate_left 2; (· (go_simp; first | done | with_reducible rfl)); (· (simp only [Act.put, List.setIfInBounds_toArray, List.set_cons_zero, List.set_cons_succ]; first | done | rfl)))
      refine Sq.done fun y hR _ => ?_
      obtain ⟨k, hk1, hk2, hk3, hk4⟩ := minI r x1.size HR1.out
      rw [hk1]
      have HK := Lib.hid (And.intro hk1 (And.intro hk2 hk3))
      have HBY := Lib.hid ((bnew wr (.cells #[.pointer (some ⟨b, 10, none⟩)] 98)).trans' (below_undrew hR))
      have HV2 := Lib.hid (HV1.out.below (below_undrew hR))
      have HB2 := Lib.hid (HB1.out.below (below_undrew hR))
      have HO2 := Lib.hid (HLN.out.t1.keep (w' := y) fun hc => HBY.out.block g1 (HLN.out.t1.lt hc))
      clear hk1 hk2 hk3 hR
      by_cases hz : x1.size = 0
      · have hk0 : k = 0 := by have := HK.out.2.2; omega
        subst hk0
        clear hk4
        go_wp2
        go_roundw
        case rel => exact ⟨2, by omega, by go_num, Lib.hid (by rw [lk_step1 hz, HE0.out]; exact HOWN.out.below HBY.out), Lib.hid (HKP.out.trans (Keep.of_below HBY.out))⟩
        case measure => simp [intOf]
      · have hk0 := hk4 (by omega)
        have HZ := Lib.hid hz
        clear hk4 hz
        go_wp2
        have hgb : 0 < c1 → g1 ≠ b := fun hc => by
          obtain ⟨off, cur, e, hb, h1, h2⟩ := HO2.out.2.2 hc
          exact hb.ne_ HB2.out (by decide)
        have hgv : 0 < c1 → g1 ≠ wr.heap.size := fun hc => by
          obtain ⟨off, cur, e, hb, h1, h2⟩ := HO2.out.2.2 hc
          exact hb.ne_ HV2.out (by decide)
        have hbv : wr.heap.size ≠ b := HV2.out.ne_ HB2.out (by decide)
        have HGB := Lib.hid hgb
        have HGV := Lib.hid hgv
        have HBV := Lib.hid hbv
        clear hgb hgv hbv
        refine wp_region_tok (nt := 158) (by kernel_rfl) [0,1,2,3,4,5,6,7,8,9,10,11,12,13,14,15,16,17,18,19,20,21] [22,23,24] (RP b g1 c1 f1.length A1 (f1.flatMap flc ++ flc ⟨now + 1 + d, x1.extract 0 k⟩) (fun s => (L87 r d p A ws.length c now true ses x0 A0 f0.length c0 a0 s A1 f1.length c1 a1).toArray) (x1.extract k x1.size)) RP.refl RP.trans [(18, P18 b (x1.extract 0 k) (x1.extract k x1.size) (fun s => (L87 r d p A ws.length c now true ses x0 A0 f0.length c0 a0 s A1 f1.length c1 a1).toArray)), (20, P20 y.heap.size ⟨now + 1 + d, x1.extract 0 k⟩), (21, P21 y.heap.size g1 f1.length c1 A1 (f1.flatMap flc ++ flc ⟨now + 1 + d, x1.extract 0 k⟩))] (by kernel_rfl) (by simp) rfl (by kernel_rfl) (by simp) ?stab (T8 b g1 f1.length c1 A1 (f1.flatMap flc) ((fun s => (L87 r d p A ws.length c now true ses x0 A0 f0.length c0 a0 s A1 f1.length c1 a1).toArray) x1)) ?tok ?_
        case stab => exact ⟨fun v x y _ hR h => h.rp hR, fun v x y _ hR h => h.rp hR HB2.out.lt (fun hc => HO2.out.lt hc), fun v x y _ hR h => h.rp hR HB2.out.lt (fun hc => HO2.out.lt hc), trivial⟩
        case tok => exact fun i => ⟨fun _ => HB2.out, fun _ => HO2.out⟩
        have HBW := Lib.hid (fun (w' : World) (hR : RP b g1 c1 f1.length A1 (f1.flatMap flc ++ flc ⟨now + 1 + d, x1.extract 0 k⟩) (fun s => (L87 r d p A ws.length c now true ses x0 A0 f0.length c0 a0 s A1 f1.length c1 a1).toArray) (x1.extract k x1.size) y.drew w') => (show ∃ s', Blk w' b 87 ((fun s => (L87 r d p A ws.length c now true ses x0 A0 f0.length c0 a0 s A1 f1.length c1 a1).toArray) s') from by obtain ⟨_, _, _, _, _, h6, _⟩ := hR; obtain ⟨s', h, _⟩ := h6 x1 HB2.out; exact ⟨s', h⟩))
        have HVW := Lib.hid (fun (w' : World) (hR : RP b g1 c1 f1.length A1 (f1.flatMap flc ++ flc ⟨now + 1 + d, x1.extract 0 k⟩) (fun s => (L87 r d p A ws.length c now true ses x0 A0 f0.length c0 a0 s A1 f1.length c1 a1).toArray) (x1.extract k x1.size) y.drew w') => (show Blk w' wr.heap.size 98 #[.pointer (some ⟨b, 10, none⟩)] from hR.blk HV2.out HBV.out (fun hc e => HGV.out hc e.symm)))
        iterate 2 (refine' St.det (E := _) (b := _) (by rfl) (by rfl) (by rfl) (fun w' hR hf => ?_) ?_ ?_; rotate_left 2; (· (have hc : w'.cell? ⟨wr.heap.size, 0, none⟩ = some (.pointer (some ⟨b, 10, none⟩)) := (HVW.out w' hR).cell 0; go_simp; first | done | with_reducible rfl)); (· (simp only [Act.put, List.setIfInBounds_toArray, List.set_cons_zero, List.set_cons_succ]; first | done | rfl)))
        iterate 2 (refine' St.det (E := _) (b := _) (by rfl) (by rfl) (by rfl) (fun w' hR hf => ?_) ?_ ?_; rotate_left 2; (· (go_simp; first | done | with_reducible rfl)); (· (simp only [Act.put, List.setIfInBounds_toArray, List.set_cons_zero, List.set_cons_succ]; first | done | rfl)))
        (refine' St.det (E := _) (b := _) (by rfl) (by rfl) (by rfl) (fun w' hR hf => ?_) ?_ ?_; rotate_left 2; (· (obtain ⟨s', hb'⟩ := HBW.out w' hR; have hc : w'.cell? ⟨b, 11, none⟩ = some (.slice A1 f1.length c1) := hb'.cell 11; go_simp; first | done | with_reducible rfl)); (· (simp only [Act.put, List.setIfInBounds_toArray, List.set_cons_zero, List.set_cons_succ]; first | done | rfl)))
        iterate 3 (refine' St.det (E := _) (b := _) (by rfl) (by rfl) (by rfl) (fun w' hR hf => ?_) ?_ ?_; rotate_left 2; (· (go_simp; first | done | with_reducible rfl)); (· (simp only [Act.put, List.setIfInBounds_toArray, List.set_cons_zero, List.set_cons_succ]; first | done | rfl)))
        (refine' St.det (E := _) (b := _) (by rfl) (by rfl) (by rfl) (fun w' hR hf => ?_) ?_ ?_; rotate_left 2; (· (obtain ⟨s', hb'⟩ := HBW.out w' hR; have hc : w'.cell? ⟨b, 4, none⟩ = some (.int .i64 now) := hb'.cell 4; go_simp; first | done | with_reducible rfl)); (· (simp only [Act.put, List.setIfInBounds_toArray, List.set_cons_zero, List.set_cons_succ]; first | done | rfl)))
        (refine' St.det (E := _) (b := _) (by rfl) (by rfl) (by rfl) (fun w' hR hf => ?_) ?_ ?_; rotate_left 2; (· (have hc := HW1.out; go_simp; first | done | with_reducible rfl)); (· (simp only [Act.put, List.setIfInBounds_toArray, List.set_cons_zero, List.set_cons_succ]; first | done | rfl)))
        iterate 4 (refine' St.det (E := _) (b := _) (by rfl) (by rfl) (by rfl) (fun w' hR hf => ?_) ?_ ?_; rotate_left 2; (· (go_simp; first | done | with_reducible rfl)); (· (simp only [Act.put, List.setIfInBounds_toArray, List.set_cons_zero, List.set_cons_succ]; first | done | rfl)))
        (refine' St.det (E := _) (b := _) (by rfl) (by rfl) (by rfl) (fun w' hR hf => ?_) ?_ ?_; rotate_left 2; (· (obtain ⟨s', hb'⟩ := HBW.out w' hR; have hc : w'.cell? ⟨b, 1, none⟩ = some (.int .i64 d) := hb'.cell 1; go_simp; first | done | with_reducible rfl)); (· (simp only [Act.put, List.setIfInBounds_toArray, List.set_cons_zero, List.set_cons_succ]; first | done | rfl)))
        (refine' St.det (E := _) (b := _) (by rfl) (by rfl) (by rfl) (fun w' hR hf => ?_) ?_ ?_; rotate_left 2; (· (have hc := HW2.out; go_simp; first | done | with_reducible rfl)); (· (simp only [Act.put, List.setIfInBounds_toArray, List.set_cons_zero, List.set_cons_succ]; first | done | rfl)))
        iterate 2 (refine' St.det (E := _) (b := _) (by rfl) (by rfl) (by rfl) (fun w' hR hf => ?_) ?_ ?_; rotate_left 2; (· (go_simp; first | done | with_reducible rfl)); (· (simp only [Act.put, List.setIfInBounds_toArray, List.set_cons_zero, List.set_cons_succ]; first | done | rfl)))
        (refine' St.any (f := _) (by rfl) (by rfl) (by rfl) (fun w' hR hf ht => ?_) (fun v => ?_) (fun v18 => ?_); (· (have hb18 := ht.1 rfl; go_wp2_with (go_at_call 59; refine (take_any k x1 wr.heap.size b 10 w' (HVW.out w' hR) (hb18.cell 10) (hb18.frozen 10) HK.out.2.2).mono ?_; rintro e w1 ⟨he, hw1⟩; subst he hw1); exact ⟨RP.step18 hb18 rfl HGB.out, fun j hj => T8.step18 HGB.out hj, rfl, hb18.set_ 10 _⟩)); rotate_left 1; (· (simp only [Act.put, List.setIfInBounds_toArray, List.set_cons_zero, List.set_cons_succ]; first | done | rfl)))
        (refine' St.det (E := _) (b := _) (by rfl) (by rfl) (by rfl) (fun w' hR hf => ?_) ?_ ?_; rotate_left 2; (· (obtain ⟨rfl, _⟩ : P18 b (x1.extract 0 k) (x1.extract k x1.size) (fun s => (L87 r d p A ws.length c now true ses x0 A0 f0.length c0 a0 s A1 f1.length c1 a1).toArray) v18 w' := hf 18 (by decide) _ rfl; exact exec_build95 (.tmp 52) (.tmp 55) ⟨now + 1 + d, x1.extract 0 k⟩ (by kernel_rfl) (by kernel_rfl))); (· (simp only [Act.put, List.setIfInBounds_toArray, List.set_cons_zero, List.set_cons_succ]; first | done | rfl)))
        (refine' St.any (f := _) (by rfl) (by rfl) (by rfl) (fun w' hR hf ht => ?_) (fun v => ?_) (fun v20 => ?_); (· (refine wp_slice95 (.tmp 56) rfl ⟨now + 1 + d, x1.extract 0 k⟩ (by kernel_rfl) (fun w1 h1 h2 => ?_); exact ⟨rfl, RP.of_below (fun hc => Nat.lt_of_lt_of_le (HO2.out.lt hc) hR.2.2.2.1) h2, fun j _ h => h.below h2, _, rfl, hR.2.2.2.1, h1⟩)); rotate_left 1; (· (simp only [Act.put, List.setIfInBounds_toArray, List.set_cons_zero, List.set_cons_succ]; first | done | rfl)))
        (refine' St.any (f := _) (by rfl) (by rfl) (by rfl) (fun w' hR hf ht => ?_) (fun v => ?_) (fun v21 => ?_); (· (obtain ⟨q, hq, hqB, hbq⟩ : P20 y.heap.size ⟨now + 1 + d, x1.extract 0 k⟩ v20 w' := hf 20 (by decide) _ rfl; subst hq; have hO := ht.2 rfl; refine wp_append_OT (.tmp 41) (.tmp 57) rfl g1 f1.length c1 A1 (f1.flatMap flc) (by kernel_rfl) hO HN1.out ⟨now + 1 + d, x1.extract 0 k⟩ q 1 (by kernel_rfl) hbq (fun v w1 ha => ?_); exact ⟨rfl, RP.step21 hO HGB.out ha, fun j hj h => T8.step21 HGB.out hj h ha, P21.of ha hR.2.2.2.1⟩)); rotate_left 1; (· (simp only [Act.put, List.setIfInBounds_toArray, List.set_cons_zero, List.set_cons_succ]; first | done | rfl)))
        refine St.tail _ (by rfl) fun w6 hR hp => ?_
        have h18 : P18 b (x1.extract 0 k) (x1.extract k x1.size) (fun s => (L87 r d p A ws.length c now true ses x0 A0 f0.length c0 a0 s A1 f1.length c1 a1).toArray) v18 w6 := hp 18 (by decide) _ rfl
        have h21 : P21 y.heap.size g1 f1.length c1 A1 (f1.flatMap flc ++ flc ⟨now + 1 + d, x1.extract 0 k⟩) v21 w6 := hp 21 (by decide) _ rfl
        have FIN := Lib.hid (launch_fin1 HLN.out HBS.out HFF.out.1 HFF.out.2.1 HFF.out.2.2 HBY.out hR h18.2 h21)
        have hv21 : ∃ a1 n1 c1, v21 = .slice a1 n1 c1 := by
          rcases h21 with ⟨_, e, _⟩ | ⟨_, _, _, e, _⟩
          · exact ⟨_, _, _, e⟩
          · exact ⟨_, _, _, e⟩
        obtain ⟨qa, qn, qc, hq21⟩ := hv21
        subst hq21
        have hcf : w6.cell? ⟨b, 11, none⟩ = some (.slice A1 f1.length c1) := h18.2.cell 11
        have hff := h18.2.frozen 11
        clear hR hp h18 h21 HBW HVW
        go_wp2
        go_roundw
        case rel => exact ⟨2, by omega, by go_num, Lib.hid (by rw [lk_step1p HZ.out HK.out.2.1, HE0.out]; exact FIN.out.1), Lib.hid (HKP.out.trans FIN.out.2)⟩
        case measure => simp [intOf]
    · have hq0 := launchE_tot (r := r) (now := now) (d := d) (e := ⟨x0, f0, a0⟩)
      have hq1 := launchE_tot (r := r) (now := now) (d := d) (e := ⟨x1, f1, a1⟩)
      obtain ⟨e0, he0⟩ : ∃ e, launchE r now d ⟨x0, f0, a0⟩ = e := ⟨_, rfl⟩
      obtain ⟨e1, he1⟩ : ∃ e, launchE r now d ⟨x1, f1, a1⟩ = e := ⟨_, rfl⟩
      rw [he0] at hq0
      rw [he1] at hq1
      simp only at hq0 hq1
      have hm0 : e1.arr.size + wayN e0.fl ≤ 1099511627776 := by rw [hq1.2]; have := HM.out.1; omega
      have hm1 : e0.arr.size + wayN e1.fl ≤ 1099511627776 := by rw [hq0.2]; have := HM.out.2; omega
      have HOWN := Lib.hid HOWN'.out
      rw [lk2, he0, he1] at HOWN
      have HEA := Lib.hid he0
      have HEB := Lib.hid he1
      have HMM0 := Lib.hid hm0
      have HMM1 := Lib.hid hm1
      have HPB := Lib.hid (minute_step HNN1.out HOWN.out).1
      have HKB := Lib.hid (HKP.out.trans (minute_step HNN1.out HOWN.out).2)
      have hc4 : wr.cell? ⟨b, 4, none⟩ = some (.int .i64 now) := by obtain ⟨g0, g1, A0, A1, c0, c1, h1, _⟩ := HOWN.out; exact h1.blk.cell 4
      have hf4 : wr.frozen? ⟨b, 4, none⟩ = false := by obtain ⟨g0, g1, A0, A1, c0, c1, h1, _⟩ := HOWN.out; exact h1.blk.frozen 4
      clear hq0 hq1 hm0 hm1 he0 he1 HOWN HOWN'
      clear HLP HNN HM
      obtain ⟨x0, f0, a0⟩ := e0
      obtain ⟨x1, f1, a1⟩ := e1
      go_wp2
      clear hc4 hf4
      have HKN := Lib.hid HNN1.out
      go_wp2
      go_loopw [69] (fun kv wr => ∃ k : Nat, k ≤ 2 ∧ kv = .int .i64 k ∧ Hid (POwn F B wr b (dlvL k ⟨⟨r, d, p, ws⟩, nn, true, ses, ⟨x0, f0, a0⟩, ⟨x1, f1, a1⟩⟩) gw A c) ∧ Hid (Keep F B w wr)) (fun kv _ => 2 - (intOf kv).toNat)
      case atStart => exact ⟨0, by omega, rfl, Lib.hid (by rw [dk0]; exact HPB.out), HKB⟩
      case round =>
        obtain ⟨k, hk, rfl, HOWN', HKP0⟩ := hrel
        rcases (by omega : k = 0 ∨ k = 1 ∨ k = 2) with rfl | rfl | rfl
        · have HOWN := Lib.hid HOWN'.out
          rw [dk0] at HOWN
          clear HOWN'
          go_wp2
          go_loopw [96] (fun _ wr => ∃ (yy : List Fl) (zz : ByteArray), Hid (POwn F B wr b ⟨⟨r, d, p, ws⟩, nn, true, ses, ⟨x0, yy, a0⟩, ⟨x1, f1, zz⟩⟩ gw A c) ∧ Hid (dlvF nn f0 a1 = dlvF nn yy zz) ∧ Hid (zz.size + wayN yy ≤ 1099511627776) ∧ Hid (Keep F B w wr)) (fun _ wr => flN b 8 wr)
          case atStart => exact ⟨f0, a1, HOWN, Lib.hid rfl, HMM0, HKP0⟩
          case round =>
            obtain ⟨yy, zz, HP, HDV, HMZ, HKP⟩ := hrel
            obtain ⟨g0, g1, A0, A1, c0, c1, hln, hf1, hf2, hf3⟩ := HP.out
            have HFF := Lib.hid (And.intro hf1 (And.intro hf2 hf3))
            have HBS := Lib.hid (Nat.le_trans HBB.out HKP.out.size)
            clear hf1 hf2 hf3
            cases yy with
            | nil =>
              have HBL : Hid (Blk wr b 87 (L87 r d p A ws.length c nn true ses x0 A0 0 c0 a0 x1 A1 f1.length c1 zz).toArray) := Lib.hid hln.blk
              have HDV := Lib.hid (HDV.out.trans (show dlvF nn [] zz = ([], zz) from rfl))
              clear hln
              go_wp2
              refine wp_region_seq (nt := 158) (by kernel_rfl) [0,1,2,3,4,5,6,7,8,9,10,11,12,13,14,15,16,17,18,19] [] Rb Rb.refl Rb.trans [] (by kernel_rfl) (by simp) rfl (by kernel_rfl) (by simp) trivial ?_
              iterate 3 (refine' Sq.det (E := _) (b := _) (by rfl) (by rfl) (by rfl) (fun w' hR hf => ?_) ?_ ?_; rotate_left 2; (· (go_simp; first | done | with_reducible rfl)); (· (simp only [Act.put, List.setIfInBounds_toArray, List.set_cons_zero, List.set_cons_succ]; first | done | rfl)))
              (refine' Sq.det (E := _) (b := _) (by rfl) (by rfl) (by rfl) (fun w' hR hf => ?_) ?_ ?_; rotate_left 2; (· (have hc : w'.cell? ⟨b, 8, none⟩ = some (.slice A0 0 c0) := (HBL.out.below (below_undrew hR)).cell 8; go_simp; first | done | with_reducible rfl)); (· (simp only [Act.put, List.setIfInBounds_toArray, List.set_cons_zero, List.set_cons_succ]; first | done | rfl)))
              iterate 3 (refine' Sq.det (E := _) (b := _) (by rfl) (by rfl) (by rfl) (fun w' hR hf => ?_) ?_ ?_; rotate_left 2; (· (go_simp; first | done | with_reducible rfl)); (· (simp only [Act.put, List.setIfInBounds_toArray, List.set_cons_zero, List.set_cons_succ]; first | done | rfl)))
              iterate 12 (refine' Sq.skip (b := _) (by rfl) (by rfl) (by rfl) ?_ ?_; rotate_left 1; (· (simp only [Act.put, List.setIfInBounds_toArray, List.set_cons_zero, List.set_cons_succ]; first | done | rfl)))
              (refine' Sq.det (E := _) (b := _) (by rfl) (by rfl) (by rfl) (fun w' hR hf => ?_) ?_ ?_; rotate_left 2; (· (go_simp; first | done | with_reducible rfl)); (· (simp only [Act.put, List.setIfInBounds_toArray, List.set_cons_zero, List.set_cons_succ]; first | done | rfl)))
              refine Sq.done fun y6 hR _ => ?_
              have HY6 : Hid (Below wr.heap.size wr y6) := Lib.hid (below_undrew hR)
              clear hR
              go_wp2
              go_roundw
              case rel => exact ⟨1, by omega, by go_num, Lib.hid (by rw [dk1, HDV.out]; exact HP.out.below HY6.out), Lib.hid (HKP.out.trans (Keep.of_below HY6.out))⟩
              case measure => simp [intOf]
            | cons f yy =>
              obtain ⟨off, cur, hA, hcb, hcs, hcc⟩ := hln.t0.2.2 (Nat.lt_of_lt_of_le (by simp) hln.t0.1)
              subst hA
              obtain ⟨fat, ftx⟩ := f
              have HBL : Hid (Blk wr b 87 (L87 r d p A ws.length c nn true ses x0 (some ⟨g0, off, none⟩) (yy.length + 1) c0 a0 x1 A1 f1.length c1 zz).toArray) := Lib.hid hln.blk
              have hc0 : cur[off]? = some (.int .i64 fat) := by simpa using hcc 0 _ rfl
              have hc1 : cur[off + 1]? = some (.string ftx) := by simpa using hcc 1 _ rfl
              have HCU := Lib.hid (And.intro hcb (And.intro hc0 hc1))
              have HLN := Lib.hid hln
              clear hcb hcs hcc hc0 hc1 hln
              by_cases hle : fat ≤ nn
              · have HLE := Lib.hid hle
                clear hle
                go_wp2
                refine wp_region_seq (nt := 158) (by kernel_rfl) [0,1,2,3,4,5,6,7,8,9,10,11,12,13,14,15,16,17,18,19] [] Rb Rb.refl Rb.trans [] (by kernel_rfl) (by simp) rfl (by kernel_rfl) (by simp) trivial ?_
                iterate 3 (refine' Sq.det (E := _) (b := _) (by rfl) (by rfl) (by rfl) (fun w' hR hf => ?_) ?_ ?_; rotate_left 2; (· (go_simp; first | done | with_reducible rfl)); (· (simp only [Act.put, List.setIfInBounds_toArray, List.set_cons_zero, List.set_cons_succ]; first | done | rfl)))
                (refine' Sq.det (E := _) (b := _) (by rfl) (by rfl) (by rfl) (fun w' hR hf => ?_) ?_ ?_; rotate_left 2; (· (have hc : w'.cell? ⟨b, 8, none⟩ = some (.slice (some ⟨g0, off, none⟩) (yy.length + 1) c0) := (HBL.out.below (below_undrew hR)).cell 8; go_simp; first | done | with_reducible rfl)); (· (simp only [Act.put, List.setIfInBounds_toArray, List.set_cons_zero, List.set_cons_succ]; first | done | rfl)))
                iterate 3 (refine' Sq.det (E := _) (b := _) (by rfl) (by rfl) (by rfl) (fun w' hR hf => ?_) ?_ ?_; rotate_left 2; (· (go_simp; first | done | with_reducible rfl)); (· (simp only [Act.put, List.setIfInBounds_toArray, List.set_cons_zero, List.set_cons_succ]; first | done | rfl)))
                iterate 3 (refine' Sq.det (E := _) (b := _) (by rfl) (by rfl) (by rfl) (fun w' hR hf => ?_) ?_ ?_; rotate_left 2; (· (go_simp; first | done | with_reducible rfl)); (· (simp only [Act.put, List.setIfInBounds_toArray, List.set_cons_zero, List.set_cons_succ]; first | done | rfl)))
                (refine' Sq.det (E := _) (b := _) (by rfl) (by rfl) (by rfl) (fun w' hR hf => ?_) ?_ ?_; rotate_left 2; (· (have hc : w'.cell? ⟨b, 8, none⟩ = some (.slice (some ⟨g0, off, none⟩) (yy.length + 1) c0) := (HBL.out.below (below_undrew hR)).cell 8; go_simp; first | done | with_reducible rfl)); (· (simp only [Act.put, List.setIfInBounds_toArray, List.set_cons_zero, List.set_cons_succ]; first | done | rfl)))
                iterate 2 (refine' Sq.det (E := _) (b := _) (by rfl) (by rfl) (by rfl) (fun w' hR hf => ?_) ?_ ?_; rotate_left 2; (· (go_simp; first | done | with_reducible rfl)); (· (simp only [Act.put, List.setIfInBounds_toArray, List.set_cons_zero, List.set_cons_succ]; first | done | rfl)))
                (refine' Sq.det (E := _) (b := _) (by rfl) (by rfl) (by rfl) (fun w' hR hf => ?_) ?_ ?_; rotate_left 2; (· (have hc : w'.cell? ⟨g0, off, none⟩ = some (.int .i64 fat) := ((HCU.out.1.below (below_undrew hR)).cell off).trans HCU.out.2.1; go_simp; first | done | with_reducible rfl)); (· (simp only [Act.put, List.setIfInBounds_toArray, List.set_cons_zero, List.set_cons_succ]; first | done | rfl)))
                iterate 3 (refine' Sq.det (E := _) (b := _) (by rfl) (by rfl) (by rfl) (fun w' hR hf => ?_) ?_ ?_; rotate_left 2; (· (go_simp; first | done | with_reducible rfl)); (· (simp only [Act.put, List.setIfInBounds_toArray, List.set_cons_zero, List.set_cons_succ]; first | done | rfl)))
                (refine' Sq.det (E := _) (b := _) (by rfl) (by rfl) (by rfl) (fun w' hR hf => ?_) ?_ ?_; rotate_left 2; (· (have hc : w'.cell? ⟨b, 4, none⟩ = some (.int .i64 nn) := (HBL.out.below (below_undrew hR)).cell 4; go_simp; first | done | with_reducible rfl)); (· (simp only [Act.put, List.setIfInBounds_toArray, List.set_cons_zero, List.set_cons_succ]; first | done | rfl)))
                (refine' Sq.det (E := _) (b := _) (by rfl) (by rfl) (by rfl) (fun w' hR hf => ?_) ?_ ?_; rotate_left 2; (· (have hc : decide (fat ≤ nn) = true := (by simpa using HLE.out); go_simp; first | done | with_reducible rfl)); (· (simp only [Act.put, List.setIfInBounds_toArray, List.set_cons_zero, List.set_cons_succ]; first | done | rfl)))
                (refine' Sq.det (E := _) (b := _) (by rfl) (by rfl) (by rfl) (fun w' hR hf => ?_) ?_ ?_; rotate_left 2; (· (go_simp; first | done | with_reducible rfl)); (· (simp only [Act.put, List.setIfInBounds_toArray, List.set_cons_zero, List.set_cons_succ]; first | done | rfl)))
                refine Sq.done fun y6 hR _ => ?_
                have HY6 : Hid (Below wr.heap.size wr y6) := Lib.hid (below_undrew hR)
                clear hR
                have HBL6 := Lib.hid (HBL.out.below HY6.out)
                have HCU6 := Lib.hid (HCU.out.1.below HY6.out)
                go_wp2
                refine wp_region_seq (nt := 158) (by kernel_rfl) [0,1,2,3,4,5,6,7,8,9,10,11,12,13,14,15,16,17,18,19] [20] Rb Rb.refl Rb.trans [] (by kernel_rfl) (by simp) rfl (by kernel_rfl) (by simp) trivial ?_
                iterate 2 (refine' Sq.det (E := _) (b := _) (by rfl) (by rfl) (by rfl) (fun w' hR hf => ?_) ?_ ?_; rotate_left 2; (· (go_simp; first | done | with_reducible rfl)); (· (simp only [Act.put, List.setIfInBounds_toArray, List.set_cons_zero, List.set_cons_succ]; first | done | rfl)))
                (refine' Sq.det (E := _) (b := _) (by rfl) (by rfl) (by rfl) (fun w' hR hf => ?_) ?_ ?_; rotate_left 2; (· (have hc : IntKind.i64.wrap 1 = 1 := (by kernel_rfl); go_simp; first | done | with_reducible rfl)); (· (simp only [Act.put, List.setIfInBounds_toArray, List.set_cons_zero, List.set_cons_succ]; first | done | rfl)))
                iterate 4 (refine' Sq.det (E := _) (b := _) (by rfl) (by rfl) (by rfl) (fun w' hR hf => ?_) ?_ ?_; rotate_left 2; (· (go_simp; first | done | with_reducible rfl)); (· (simp only [Act.put, List.setIfInBounds_toArray, List.set_cons_zero, List.set_cons_succ]; first | done | rfl)))
                (refine' Sq.det (E := _) (b := _) (by rfl) (by rfl) (by rfl) (fun w' hR hf => ?_) ?_ ?_; rotate_left 2; (· (have hc : w'.cell? ⟨b, 12, none⟩ = some (.string zz) := (HBL6.out.below (below_undrew hR)).cell 12; go_simp; first | done | with_reducible rfl)); (· (simp only [Act.put, List.setIfInBounds_toArray, List.set_cons_zero, List.set_cons_succ]; first | done | rfl)))
                iterate 3 (refine' Sq.det (E := _) (b := _) (by rfl) (by rfl) (by rfl) (fun w' hR hf => ?_) ?_ ?_; rotate_left 2; (· (go_simp; first | done | with_reducible rfl)); (· (simp only [Act.put, List.setIfInBounds_toArray, List.set_cons_zero, List.set_cons_succ]; first | done | rfl)))
                (refine' Sq.det (E := _) (b := _) (by rfl) (by rfl) (by rfl) (fun w' hR hf => ?_) ?_ ?_; rotate_left 2; (· (have hc : w'.cell? ⟨b, 8, none⟩ = some (.slice (some ⟨g0, off, none⟩) (yy.length + 1) c0) := (HBL6.out.below (below_undrew hR)).cell 8; go_simp; first | done | with_reducible rfl)); (· (simp only [Act.put, List.setIfInBounds_toArray, List.set_cons_zero, List.set_cons_succ]; first | done | rfl)))
                iterate 2 (refine' Sq.det (E := _) (b := _) (by rfl) (by rfl) (by rfl) (fun w' hR hf => ?_) ?_ ?_; rotate_left 2; (· (go_simp; first | done | with_reducible rfl)); (· (simp only [Act.put, List.setIfInBounds_toArray, List.set_cons_zero, List.set_cons_succ]; first | done | rfl)))
                (refine' Sq.det (E := _) (b := _) (by rfl) (by rfl) (by rfl) (fun w' hR hf => ?_) ?_ ?_; rotate_left 2; (· (have hc : w'.cell? ⟨g0, off + 1, none⟩ = some (.string ftx) := ((HCU6.out.below (below_undrew hR)).cell (off + 1)).trans HCU.out.2.2; go_simp; first | done | with_reducible rfl)); (· (simp only [Act.put, List.setIfInBounds_toArray, List.set_cons_zero, List.set_cons_succ]; first | done | rfl)))
                (refine' Sq.det (E := _) (b := _) (by rfl) (by rfl) (by rfl) (fun w' hR hf => ?_) ?_ ?_; rotate_left 2; (· (have hq : ¬ 9223372036854775807 < zz.size + ftx.size := (by have := HMZ.out; rw [wayN_cons] at this; simp only at this; omega); go_simp; first | done | with_reducible rfl)); (· (simp only [Act.put, List.setIfInBounds_toArray, List.set_cons_zero, List.set_cons_succ]; first | done | rfl)))
                iterate 4 (refine' Sq.det (E := _) (b := _) (by rfl) (by rfl) (by rfl) (fun w' hR hf => ?_) ?_ ?_; rotate_left 2; (· (go_simp; first | done | with_reducible rfl)); (· (simp only [Act.put, List.setIfInBounds_toArray, List.set_cons_zero, List.set_cons_succ]; first | done | rfl)))
                refine Sq.tail1 (by rfl) fun y7 hR _ => ?_
                have HY7 : Hid (Below wr.heap.size wr y7) := Lib.hid (HY6.out.trans' (below_undrew hR))
                clear hR
                have HBL7 := Lib.hid (HBL.out.below HY7.out)
                have hc1 : y7.cell? ⟨b, 12, none⟩ = some (.string zz) := HBL7.out.cell 12
                have hf1 := HBL7.out.frozen 12
                have hc2 : y7.cell? ⟨b, 8, none⟩ = some (.slice (some ⟨g0, off, none⟩) (yy.length + 1) c0) := HBL7.out.cell 8
                have hf2 := HBL7.out.frozen 8
                have HMT : Hid ((zz ++ ftx).size + wayN yy ≤ 1099511627776) := Lib.hid (by have := HMZ.out; rw [wayN_cons] at this; simp only [ByteArray.size_append] at this ⊢; omega)
                have HCC := Lib.hid (show 1 ≤ c0 ∧ yy.length + 1 ≤ c0 from by have := HLN.out.t0.1; simp at this; omega)
                by_cases hcap : c0 = 1
                · have hyl : yy.length = 0 := by have := HCC.out; omega
                  have HCAP := Lib.hid hcap
                  have HYL := Lib.hid hyl
                  rw [hcap, hyl] at hc2
                  clear hyl hcap
                  go_wp2
                  go_roundw
                  case rel => exact ⟨yy, zz ++ ftx, Lib.hid (dlv_fin0 HLN.out HFF.out.1 HFF.out.2.1 HFF.out.2.2 HY7.out (.inr HCAP.out) (by rw [HCAP.out, HYL.out])).1, Lib.hid (HDV.out.trans (dlvF_cons HLE.out)), HMT, Lib.hid (HKP.out.trans (dlv_fin0 HLN.out HFF.out.1 HFF.out.2.1 HFF.out.2.2 HY7.out (.inr HCAP.out) (by rw [HCAP.out, HYL.out])).2)⟩
                  case measure => exact dlv_meas0 (dlv_fin0 HLN.out HFF.out.1 HFF.out.2.1 HFF.out.2.2 HY7.out (.inr HCAP.out) (by rw [HCAP.out, HYL.out])).1 (HBL.out.cell 8)
                · have hcg : 1 < c0 := by have := HCC.out; omega
                  have HCG := Lib.hid hcg
                  go_wp2
                  go_roundw
                  case rel => exact ⟨yy, zz ++ ftx, Lib.hid (dlv_fin0 HLN.out HFF.out.1 HFF.out.2.1 HFF.out.2.2 HY7.out (.inl rfl) rfl).1, Lib.hid (HDV.out.trans (dlvF_cons HLE.out)), HMT, Lib.hid (HKP.out.trans (dlv_fin0 HLN.out HFF.out.1 HFF.out.2.1 HFF.out.2.2 HY7.out (.inl rfl) rfl).2)⟩
                  case measure => exact dlv_meas0 (dlv_fin0 HLN.out HFF.out.1 HFF.out.2.1 HFF.out.2.2 HY7.out (.inl rfl) rfl).1 (HBL.out.cell 8)
              · have HDV := Lib.hid (HDV.out.trans (dlvF_stop (f := ⟨fat, ftx⟩) (l := yy) (a := zz) hle))
                have HLE := Lib.hid hle
                clear hle
                go_wp2
                refine wp_region_seq (nt := 158) (by kernel_rfl) [0,1,2,3,4,5,6,7,8,9,10,11,12,13,14,15,16,17,18,19] [] Rb Rb.refl Rb.trans [] (by kernel_rfl) (by simp) rfl (by kernel_rfl) (by simp) trivial ?_
                iterate 3 (refine' Sq.det (E := _) (b := _) (by rfl) (by rfl) (by rfl) (fun w' hR hf => ?_) ?_ ?_; rotate_left 2; (· (go_simp; first | done | with_reducible rfl)); (· (simp only [Act.put, List.setIfInBounds_toArray, List.set_cons_zero, List.set_cons_succ]; first | done | rfl)))
                (refine' Sq.det (E := _) (b := _) (by rfl) (by rfl) (by rfl) (fun w' hR hf => ?_) ?_ ?_; rotate_left 2; (· (have hc : w'.cell? ⟨b, 8, none⟩ = some (.slice (some ⟨g0, off, none⟩) (yy.length + 1) c0) := (HBL.out.below (below_undrew hR)).cell 8; go_simp; first | done | with_reducible rfl)); (· (simp only [Act.put, List.setIfInBounds_toArray, List.set_cons_zero, List.set_cons_succ]; first | done | rfl)))
                iterate 3 (refine' Sq.det (E := _) (b := _) (by rfl) (by rfl) (by rfl) (fun w' hR hf => ?_) ?_ ?_; rotate_left 2; (· (go_simp; first | done | with_reducible rfl)); (· (simp only [Act.put, List.setIfInBounds_toArray, List.set_cons_zero, List.set_cons_succ]; first | done | rfl)))
                iterate 3 (refine' Sq.det (E := _) (b := _) (by rfl) (by rfl) (by rfl) (fun w' hR hf => ?_) ?_ ?_; rotate_left 2; (· (go_simp; first | done | with_reducible rfl)); (· (simp only [Act.put, List.setIfInBounds_toArray, List.set_cons_zero, List.set_cons_succ]; first | done | rfl)))
                (refine' Sq.det (E := _) (b := _) (by rfl) (by rfl) (by rfl) (fun w' hR hf => ?_) ?_ ?_; rotate_left 2; (· (have hc : w'.cell? ⟨b, 8, none⟩ = some (.slice (some ⟨g0, off, none⟩) (yy.length + 1) c0) := (HBL.out.below (below_undrew hR)).cell 8; go_simp; first | done | with_reducible rfl)); (· (simp only [Act.put, List.setIfInBounds_toArray, List.set_cons_zero, List.set_cons_succ]; first | done | rfl)))
                iterate 2 (refine' Sq.det (E := _) (b := _) (by rfl) (by rfl) (by rfl) (fun w' hR hf => ?_) ?_ ?_; rotate_left 2; (· (go_simp; first | done | with_reducible rfl)); (· (simp only [Act.put, List.setIfInBounds_toArray, List.set_cons_zero, List.set_cons_succ]; first | done | rfl)))
                (refine' Sq.det (E := _) (b := _) (by rfl) (by rfl) (by rfl) (fun w' hR hf => ?_) ?_ ?_; rotate_left 2; (· (have hc : w'.cell? ⟨g0, off, none⟩ = some (.int .i64 fat) := ((HCU.out.1.below (below_undrew hR)).cell off).trans HCU.out.2.1; go_simp; first | done | with_reducible rfl)); (· (simp only [Act.put, List.setIfInBounds_toArray, List.set_cons_zero, List.set_cons_succ]; first | done | rfl)))
                iterate 3 (refine' Sq.det (E := _) (b := _) (by rfl) (by rfl) (by rfl) (fun w' hR hf => ?_) ?_ ?_; rotate_left 2; (· (go_simp; first | done | with_reducible rfl)); (· (simp only [Act.put, List.setIfInBounds_toArray, List.set_cons_zero, List.set_cons_succ]; first | done | rfl)))
                (refine' Sq.det (E := _) (b := _) (by rfl) (by rfl) (by rfl) (fun w' hR hf => ?_) ?_ ?_; rotate_left 2; (· (have hc : w'.cell? ⟨b, 4, none⟩ = some (.int .i64 nn) := (HBL.out.below (below_undrew hR)).cell 4; go_simp; first | done | with_reducible rfl)); (· (simp only [Act.put, List.setIfInBounds_toArray, List.set_cons_zero, List.set_cons_succ]; first | done | rfl)))
                (refine' Sq.det (E := _) (b := _) (by rfl) (by rfl) (by rfl) (fun w' hR hf => ?_) ?_ ?_; rotate_left 2; (· (have hc : decide (fat ≤ nn) = false := (by simpa using HLE.out); go_simp; first | done | with_reducible rfl)); (· (simp only [Act.put, List.setIfInBounds_toArray, List.set_cons_zero, List.set_cons_succ]; first | done | rfl)))
                (refine' Sq.det (E := _) (b := _) (by rfl) (by rfl) (by rfl) (fun w' hR hf => ?_) ?_ ?_; rotate_left 2; (· (go_simp; first | done | with_reducible rfl)); (· (simp only [Act.put, List.setIfInBounds_toArray, List.set_cons_zero, List.set_cons_succ]; first | done | rfl)))
                refine Sq.done fun y6 hR _ => ?_
                have HY6 : Hid (Below wr.heap.size wr y6) := Lib.hid (below_undrew hR)
                clear hR
                go_wp2
                go_roundw
                case rel => exact ⟨1, by omega, by go_num, Lib.hid (by rw [dk1, HDV.out]; exact HP.out.below HY6.out), Lib.hid (HKP.out.trans (Keep.of_below HY6.out))⟩
                case measure => simp [intOf]
        · obtain ⟨⟨f0', a1'⟩, he0⟩ : ∃ e, dlvF nn f0 a1 = e := ⟨_, rfl⟩
          have HOWN := Lib.hid HOWN'.out
          rw [dk1, he0] at HOWN
          have HD0 := Lib.hid he0
          clear he0 HOWN'
          go_wp2
          go_loopw [96] (fun _ wr => ∃ (yy : List Fl) (zz : ByteArray), Hid (POwn F B wr b ⟨⟨r, d, p, ws⟩, nn, true, ses, ⟨x0, f0', zz⟩, ⟨x1, yy, a1'⟩⟩ gw A c) ∧ Hid (dlvF nn f1 a0 = dlvF nn yy zz) ∧ Hid (zz.size + wayN yy ≤ 1099511627776) ∧ Hid (Keep F B w wr)) (fun _ wr => flN b 11 wr)
          case atStart => exact ⟨f1, a0, HOWN, Lib.hid rfl, HMM1, HKP0⟩
          case round =>
            obtain ⟨yy, zz, HP, HDV, HMZ, HKP⟩ := hrel
            obtain ⟨g0, g1, A0, A1, c0, c1, hln, hf1, hf2, hf3⟩ := HP.out
            have HFF := Lib.hid (And.intro hf1 (And.intro hf2 hf3))
            have HBS := Lib.hid (Nat.le_trans HBB.out HKP.out.size)
            clear hf1 hf2 hf3
            cases yy with
            | nil =>
              have HBL : Hid (Blk wr b 87 (L87 r d p A ws.length c nn true ses x0 A0 f0'.length c0 zz x1 A1 0 c1 a1').toArray) := Lib.hid hln.blk
              have HDV := Lib.hid (HDV.out.trans (show dlvF nn [] zz = ([], zz) from rfl))
              clear hln
              go_wp2
              refine wp_region_seq (nt := 158) (by kernel_rfl) [0,1,2,3,4,5,6,7,8,9,10,11,12,13,14,15,16,17,18,19] [] Rb Rb.refl Rb.trans [] (by kernel_rfl) (by simp) rfl (by kernel_rfl) (by simp) trivial ?_
              iterate 3 (refine' Sq.det (E := _) (b := _) (by rfl) (by rfl) (by rfl) (fun w' hR hf => ?_) ?_ ?_; rotate_left 2; (· (go_simp; first | done | with_reducible rfl)); (· (simp only [Act.put, List.setIfInBounds_toArray, List.set_cons_zero, List.set_cons_succ]; first | done | rfl)))
              (refine' Sq.det (E := _) (b := _) (by rfl) (by rfl) (by rfl) (fun w' hR hf => ?_) ?_ ?_; rotate_left 2; (· (have hc : w'.cell? ⟨b, 11, none⟩ = some (.slice A1 0 c1) := (HBL.out.below (below_undrew hR)).cell 11; go_simp; first | done | with_reducible rfl)); (· (simp only [Act.put, List.setIfInBounds_toArray, List.set_cons_zero, List.set_cons_succ]; first | done | rfl)))
              iterate 3 (refine' Sq.det (E := _) (b := _) (by rfl) (by rfl) (by rfl) (fun w' hR hf => ?_) ?_ ?_; rotate_left 2; (· (go_simp; first | done | with_reducible rfl)); (· (simp only [Act.put, List.setIfInBounds_toArray, List.set_cons_zero, List.set_cons_succ]; first | done | rfl)))
              iterate 12 (refine' Sq.skip (b := _) (by rfl) (by rfl) (by rfl) ?_ ?_; rotate_left 1; (· (simp only [Act.put, List.setIfInBounds_toArray, List.set_cons_zero, List.set_cons_succ]; first | done | rfl)))
              (refine' Sq.det (E := _) (b := _) (by rfl) (by rfl) (by rfl) (fun w' hR hf => ?_) ?_ ?_; rotate_left 2; (· (go_simp; first | done | with_reducible rfl)); (· (simp only [Act.put, List.setIfInBounds_toArray, List.set_cons_zero, List.set_cons_succ]; first | done | rfl)))
              refine Sq.done fun y6 hR _ => ?_
              have HY6 : Hid (Below wr.heap.size wr y6) := Lib.hid (below_undrew hR)
              clear hR
              go_wp2
              go_roundw
              case rel => exact ⟨2, by omega, by go_num, Lib.hid (by rw [dk2, HD0.out, HDV.out]; exact HP.out.below HY6.out), Lib.hid (HKP.out.trans (Keep.of_below HY6.out))⟩
              case measure => simp [intOf]
            | cons f yy =>
              obtain ⟨off, cur, hA, hcb, hcs, hcc⟩ := hln.t1.2.2 (Nat.lt_of_lt_of_le (by simp) hln.t1.1)
              subst hA
              obtain ⟨fat, ftx⟩ := f
              have HBL : Hid (Blk wr b 87 (L87 r d p A ws.length c nn true ses x0 A0 f0'.length c0 zz x1 (some ⟨g1, off, none⟩) (yy.length + 1) c1 a1').toArray) := Lib.hid hln.blk
              have hc0 : cur[off]? = some (.int .i64 fat) := by simpa using hcc 0 _ rfl
              have hc1 : cur[off + 1]? = some (.string ftx) := by simpa using hcc 1 _ rfl
              have HCU := Lib.hid (And.intro hcb (And.intro hc0 hc1))
              have HLN := Lib.hid hln
              clear hcb hcs hcc hc0 hc1 hln
              by_cases hle : fat ≤ nn
              · have HLE := Lib.hid hle
                clear hle
                go_wp2
                refine wp_region_seq (nt := 158) (by kernel_rfl) [0,1,2,3,4,5,6,7,8,9,10,11,12,13,14,15,16,17,18,19] [] Rb Rb.refl Rb.trans [] (by kernel_rfl) (by simp) rfl (by kernel_rfl) (by simp) trivial ?_
                iterate 3 (refine' Sq.det (E := _) (b := _) (by rfl) (by rfl) (by rfl) (fun w' hR hf => ?_) ?_ ?_; rotate_left 2; (· (go_simp; first | done | with_reducible rfl)); (· (simp only [Act.put, List.setIfInBounds_toArray, List.set_cons_zero, List.set_cons_succ]; first | done | rfl)))
                (refine' Sq.det (E := _) (b := _) (by rfl) (by rfl) (by rfl) (fun w' hR hf => ?_) ?_ ?_; rotate_left 2; (· (have hc : w'.cell? ⟨b, 11, none⟩ = some (.slice (some ⟨g1, off, none⟩) (yy.length + 1) c1) := (HBL.out.below (below_undrew hR)).cell 11; go_simp; first | done | with_reducible rfl)); (· (simp only [Act.put, List.setIfInBounds_toArray, List.set_cons_zero, List.set_cons_succ]; first | done | rfl)))
                iterate 3 (refine' Sq.det (E := _) (b := _) (by rfl) (by rfl) (by rfl) (fun w' hR hf => ?_) ?_ ?_; rotate_left 2; (· (go_simp; first | done | with_reducible rfl)); (· (simp only [Act.put, List.setIfInBounds_toArray, List.set_cons_zero, List.set_cons_succ]; first | done | rfl)))
                iterate 3 (refine' Sq.det (E := _) (b := _) (by rfl) (by rfl) (by rfl) (fun w' hR hf => ?_) ?_ ?_; rotate_left 2; (· (go_simp; first | done | with_reducible rfl)); (· (simp only [Act.put, List.setIfInBounds_toArray, List.set_cons_zero, List.set_cons_succ]; first | done | rfl)))
                (refine' Sq.det (E := _) (b := _) (by rfl) (by rfl) (by rfl) (fun w' hR hf => ?_) ?_ ?_; rotate_left 2; (· (have hc : w'.cell? ⟨b, 11, none⟩ = some (.slice (some ⟨g1, off, none⟩) (yy.length + 1) c1) := (HBL.out.below (below_undrew hR)).cell 11; go_simp; first | done | with_reducible rfl)); (· (simp only [Act.put, List.setIfInBounds_toArray, List.set_cons_zero, List.set_cons_succ]; first | done | rfl)))
                iterate 2 (refine' Sq.det (E := _) (b := _) (by rfl) (by rfl) (by rfl) (fun w' hR hf => ?_) ?_ ?_; rotate_left 2; (· (go_simp; first | done | with_reducible rfl)); (· (simp only [Act.put, List.setIfInBounds_toArray, List.set_cons_zero, List.set_cons_succ]; first | done | rfl)))
                (refine' Sq.det (E := _) (b := _) (by rfl) (by rfl) (by rfl) (fun w' hR hf => ?_) ?_ ?_; rotate_left 2; (· (have hc : w'.cell? ⟨g1, off, none⟩ = some (.int .i64 fat) := ((HCU.out.1.below (below_undrew hR)).cell off).trans HCU.out.2.1; go_simp; first | done | with_reducible rfl)); (· (simp only [Act.put, List.setIfInBounds_toArray, List.set_cons_zero, List.set_cons_succ]; first | done | rfl)))
                iterate 3 (refine' Sq.det (E := _) (b := _) (by rfl) (by rfl) (by rfl) (fun w' hR hf => ?_) ?_ ?_; rotate_left 2; (· (go_simp; first | done | with_reducible rfl)); (· (simp only [Act.put, List.setIfInBounds_toArray, List.set_cons_zero, List.set_cons_succ]; first | done | rfl)))
                (refine' Sq.det (E := _) (b := _) (by rfl) (by rfl) (by rfl) (fun w' hR hf => ?_) ?_ ?_; rotate_left 2; (· (have hc : w'.cell? ⟨b, 4, none⟩ = some (.int .i64 nn) := (HBL.out.below (below_undrew hR)).cell 4; go_simp; first | done | with_reducible rfl)); (· (simp only [Act.put, List.setIfInBounds_toArray, List.set_cons_zero, List.set_cons_succ]; first | done | rfl)))
                (refine' Sq.det (E := _) (b := _) (by rfl) (by rfl) (by rfl) (fun w' hR hf => ?_) ?_ ?_; rotate_left 2; (· (have hc : decide (fat ≤ nn) = true := (by simpa using HLE.out); go_simp; first | done | with_reducible rfl)); (· (simp only [Act.put, List.setIfInBounds_toArray, List.set_cons_zero, List.set_cons_succ]; first | done | rfl)))
                (refine' Sq.det (E := _) (b := _) (by rfl) (by rfl) (by rfl) (fun w' hR hf => ?_) ?_ ?_; rotate_left 2; (· (go_simp; first | done | with_reducible rfl)); (· (simp only [Act.put, List.setIfInBounds_toArray, List.set_cons_zero, List.set_cons_succ]; first | done | rfl)))
                refine Sq.done fun y6 hR _ => ?_
                have HY6 : Hid (Below wr.heap.size wr y6) := Lib.hid (below_undrew hR)
                clear hR
                have HBL6 := Lib.hid (HBL.out.below HY6.out)
                have HCU6 := Lib.hid (HCU.out.1.below HY6.out)
                go_wp2
                refine wp_region_seq (nt := 158) (by kernel_rfl) [0,1,2,3,4,5,6,7,8,9,10,11,12,13,14,15,16,17,18,19] [20] Rb Rb.refl Rb.trans [] (by kernel_rfl) (by simp) rfl (by kernel_rfl) (by simp) trivial ?_
                iterate 2 (refine' Sq.det (E := _) (b := _) (by rfl) (by rfl) (by rfl) (fun w' hR hf => ?_) ?_ ?_; rotate_left 2; (· (go_simp; first | done | with_reducible rfl)); (· (simp only [Act.put, List.setIfInBounds_toArray, List.set_cons_zero, List.set_cons_succ]; first | done | rfl)))
                (refine' Sq.det (E := _) (b := _) (by rfl) (by rfl) (by rfl) (fun w' hR hf => ?_) ?_ ?_; rotate_left 2; (· (have hc : IntKind.i64.wrap 0 = 0 := (by kernel_rfl); go_simp; first | done | with_reducible rfl)); (· (simp only [Act.put, List.setIfInBounds_toArray, List.set_cons_zero, List.set_cons_succ]; first | done | rfl)))
                iterate 4 (refine' Sq.det (E := _) (b := _) (by rfl) (by rfl) (by rfl) (fun w' hR hf => ?_) ?_ ?_; rotate_left 2; (· (go_simp; first | done | with_reducible rfl)); (· (simp only [Act.put, List.setIfInBounds_toArray, List.set_cons_zero, List.set_cons_succ]; first | done | rfl)))
                (refine' Sq.det (E := _) (b := _) (by rfl) (by rfl) (by rfl) (fun w' hR hf => ?_) ?_ ?_; rotate_left 2; (· (have hc : w'.cell? ⟨b, 9, none⟩ = some (.string zz) := (HBL6.out.below (below_undrew hR)).cell 9; go_simp; first | done | with_reducible rfl)); (· (simp only [Act.put, List.setIfInBounds_toArray, List.set_cons_zero, List.set_cons_succ]; first | done | rfl)))
                iterate 3 (refine' Sq.det (E := _) (b := _) (by rfl) (by rfl) (by rfl) (fun w' hR hf => ?_) ?_ ?_; rotate_left 2; (· (go_simp; first | done | with_reducible rfl)); (· (simp only [Act.put, List.setIfInBounds_toArray, List.set_cons_zero, List.set_cons_succ]; first | done | rfl)))
                (refine' Sq.det (E := _) (b := _) (by rfl) (by rfl) (by rfl) (fun w' hR hf => ?_) ?_ ?_; rotate_left 2; (· (have hc : w'.cell? ⟨b, 11, none⟩ = some (.slice (some ⟨g1, off, none⟩) (yy.length + 1) c1) := (HBL6.out.below (below_undrew hR)).cell 11; go_simp; first | done | with_reducible rfl)); (· (simp only [Act.put, List.setIfInBounds_toArray, List.set_cons_zero, List.set_cons_succ]; first | done | rfl)))
                iterate 2 (refine' Sq.det (E := _) (b := _) (by rfl) (by rfl) (by rfl) (fun w' hR hf => ?_) ?_ ?_; rotate_left 2; (· (go_simp; first | done | with_reducible rfl)); (· (simp only [Act.put, List.setIfInBounds_toArray, List.set_cons_zero, List.set_cons_succ]; first | done | rfl)))
                (refine' Sq.det (E := _) (b := _) (by rfl) (by rfl) (by rfl) (fun w' hR hf => ?_) ?_ ?_; rotate_left 2; (· (have hc : w'.cell? ⟨g1, off + 1, none⟩ = some (.string ftx) := ((HCU6.out.below (below_undrew hR)).cell (off + 1)).trans HCU.out.2.2; go_simp; first | done | with_reducible rfl)); (· (simp only [Act.put, List.setIfInBounds_toArray, List.set_cons_zero, List.set_cons_succ]; first | done | rfl)))
                (refine' Sq.det (E := _) (b := _) (by rfl) (by rfl) (by rfl) (fun w' hR hf => ?_) ?_ ?_; rotate_left 2; (· (have hq : ¬ 9223372036854775807 < zz.size + ftx.size := (by have := HMZ.out; rw [wayN_cons] at this; simp only at this; omega); go_simp; first | done | with_reducible rfl)); (· (simp only [Act.put, List.setIfInBounds_toArray, List.set_cons_zero, List.set_cons_succ]; first | done | rfl)))
                iterate 4 (refine' Sq.det (E := _) (b := _) (by rfl) (by rfl) (by rfl) (fun w' hR hf => ?_) ?_ ?_; rotate_left 2; (· (go_simp; first | done | with_reducible rfl)); (· (simp only [Act.put, List.setIfInBounds_toArray, List.set_cons_zero, List.set_cons_succ]; first | done | rfl)))
                refine Sq.tail1 (by rfl) fun y7 hR _ => ?_
                have HY7 : Hid (Below wr.heap.size wr y7) := Lib.hid (HY6.out.trans' (below_undrew hR))
                clear hR
                have HBL7 := Lib.hid (HBL.out.below HY7.out)
                have hc1 : y7.cell? ⟨b, 9, none⟩ = some (.string zz) := HBL7.out.cell 9
                have hf1 := HBL7.out.frozen 9
                have hc2 : y7.cell? ⟨b, 11, none⟩ = some (.slice (some ⟨g1, off, none⟩) (yy.length + 1) c1) := HBL7.out.cell 11
                have hf2 := HBL7.out.frozen 11
                have HMT : Hid ((zz ++ ftx).size + wayN yy ≤ 1099511627776) := Lib.hid (by have := HMZ.out; rw [wayN_cons] at this; simp only [ByteArray.size_append] at this ⊢; omega)
                have HCC := Lib.hid (show 1 ≤ c1 ∧ yy.length + 1 ≤ c1 from by have := HLN.out.t1.1; simp at this; omega)
                by_cases hcap : c1 = 1
                · have hyl : yy.length = 0 := by have := HCC.out; omega
                  have HCAP := Lib.hid hcap
                  have HYL := Lib.hid hyl
                  rw [hcap, hyl] at hc2
                  clear hyl hcap
                  go_wp2
                  go_roundw
                  case rel => exact ⟨yy, zz ++ ftx, Lib.hid (dlv_fin1 HLN.out HFF.out.1 HFF.out.2.1 HFF.out.2.2 HY7.out (.inr HCAP.out) (by rw [HCAP.out, HYL.out])).1, Lib.hid (HDV.out.trans (dlvF_cons HLE.out)), HMT, Lib.hid (HKP.out.trans (dlv_fin1 HLN.out HFF.out.1 HFF.out.2.1 HFF.out.2.2 HY7.out (.inr HCAP.out) (by rw [HCAP.out, HYL.out])).2)⟩
                  case measure => exact dlv_meas1 (dlv_fin1 HLN.out HFF.out.1 HFF.out.2.1 HFF.out.2.2 HY7.out (.inr HCAP.out) (by rw [HCAP.out, HYL.out])).1 (HBL.out.cell 11)
                · have hcg : 1 < c1 := by have := HCC.out; omega
                  have HCG := Lib.hid hcg
                  go_wp2
                  go_roundw
                  case rel => exact ⟨yy, zz ++ ftx, Lib.hid (dlv_fin1 HLN.out HFF.out.1 HFF.out.2.1 HFF.out.2.2 HY7.out (.inl rfl) rfl).1, Lib.hid (HDV.out.trans (dlvF_cons HLE.out)), HMT, Lib.hid (HKP.out.trans (dlv_fin1 HLN.out HFF.out.1 HFF.out.2.1 HFF.out.2.2 HY7.out (.inl rfl) rfl).2)⟩
                  case measure => exact dlv_meas1 (dlv_fin1 HLN.out HFF.out.1 HFF.out.2.1 HFF.out.2.2 HY7.out (.inl rfl) rfl).1 (HBL.out.cell 11)
              · have HDV := Lib.hid (HDV.out.trans (dlvF_stop (f := ⟨fat, ftx⟩) (l := yy) (a := zz) hle))
                have HLE := Lib.hid hle
                clear hle
                go_wp2
                refine wp_region_seq (nt := 158) (by kernel_rfl) [0,1,2,3,4,5,6,7,8,9,10,11,12,13,14,15,16,17,18,19] [] Rb Rb.refl Rb.trans [] (by kernel_rfl) (by simp) rfl (by kernel_rfl) (by simp) trivial ?_
                iterate 3 (refine' Sq.det (E := _) (b := _) (by rfl) (by rfl) (by rfl) (fun w' hR hf => ?_) ?_ ?_; rotate_left 2; (· (go_simp; first | done | with_reducible rfl)); (· (simp only [Act.put, List.setIfInBounds_toArray, List.set_cons_zero, List.set_cons_succ]; first | done | rfl)))
                (refine' Sq.det (E := _) (b := _) (by rfl) (by rfl) (by rfl) (fun w' hR hf => ?_) ?_ ?_; rotate_left 2; (· (have hc : w'.cell? ⟨b, 11, none⟩ = some (.slice (some ⟨g1, off, none⟩) (yy.length + 1) c1) := (HBL.out.below (below_undrew hR)).cell 11; go_simp; first | done | with_reducible rfl)); (· (simp only [Act.put, List.setIfInBounds_toArray, List.set_cons_zero, List.set_cons_succ]; first | done | rfl)))
                iterate 3 (refine' Sq.det (E := _) (b := _) (by rfl) (by rfl) (by rfl) (fun w' hR hf => ?_) ?_ ?_; rotate_left 2; (· (go_simp; first | done | with_reducible rfl)); (· (simp only [Act.put, List.setIfInBounds_toArray, List.set_cons_zero, List.set_cons_succ]; first | done | rfl)))
                iterate 3 (refine' Sq.det (E := _) (b := _) (by rfl) (by rfl) (by rfl) (fun w' hR hf => ?_) ?_ ?_; rotate_left 2; (· (go_simp; first | done | with_reducible rfl)); (· (simp only [Act.put, List.setIfInBounds_toArray, List.set_cons_zero, List.set_cons_succ]; first | done | rfl)))
                (refine' Sq.det (E := _) (b := _) (by rfl) (by rfl) (by rfl) (fun w' hR hf => ?_) ?_ ?_; rotate_left 2; (· (have hc : w'.cell? ⟨b, 11, none⟩ = some (.slice (some ⟨g1, off, none⟩) (yy.length + 1) c1) := (HBL.out.below (below_undrew hR)).cell 11; go_simp; first | done | with_reducible rfl)); (· (simp only [Act.put, List.setIfInBounds_toArray, List.set_cons_zero, List.set_cons_succ]; first | done | rfl)))
                iterate 2 (refine' Sq.det (E := _) (b := _) (by rfl) (by rfl) (by rfl) (fun w' hR hf => ?_) ?_ ?_; rotate_left 2; (· (go_simp; first | done | with_reducible rfl)); (· (simp only [Act.put, List.setIfInBounds_toArray, List.set_cons_zero, List.set_cons_succ]; first | done | rfl)))
                (refine' Sq.det (E := _) (b := _) (by rfl) (by rfl) (by rfl) (fun w' hR hf => ?_) ?_ ?_; rotate_left 2; (· (have hc : w'.cell? ⟨g1, off, none⟩ = some (.int .i64 fat) := ((HCU.out.1.below (below_undrew hR)).cell off).trans HCU.out.2.1; go_simp; first | done | with_reducible rfl)); (· (simp only [Act.put, List.setIfInBounds_toArray, List.set_cons_zero, List.set_cons_succ]; first | done | rfl)))
                iterate 3 (refine' Sq.det (E := _) (b := _) (by rfl) (by rfl) (by rfl) (fun w' hR hf => ?_) ?_ ?_; rotate_left 2; (· (go_simp; first | done | with_reducible rfl)); (· (simp only [Act.put, List.setIfInBounds_toArray, List.set_cons_zero, List.set_cons_succ]; first | done | rfl)))
                (refine' Sq.det (E := _) (b := _) (by rfl) (by rfl) (by rfl) (fun w' hR hf => ?_) ?_ ?_; rotate_left 2; (· (have hc : w'.cell? ⟨b, 4, none⟩ = some (.int .i64 nn) := (HBL.out.below (below_undrew hR)).cell 4; go_simp; first | done | with_reducible rfl)); (· (simp only [Act.put, List.setIfInBounds_toArray, List.set_cons_zero, List.set_cons_succ]; first | done | rfl)))
                (refine' Sq.det (E := _) (b := _) (by rfl) (by rfl) (by rfl) (fun w' hR hf => ?_) ?_ ?_; rotate_left 2; (· (have hc : decide (fat ≤ nn) = false := (by simpa using HLE.out); go_simp; first | done | with_reducible rfl)); (· (simp only [Act.put, List.setIfInBounds_toArray, List.set_cons_zero, List.set_cons_succ]; first | done | rfl)))
                (refine' Sq.det (E := _) (b := _) (by rfl) (by rfl) (by rfl) (fun w' hR hf => ?_) ?_ ?_; rotate_left 2; (· (go_simp; first | done | with_reducible rfl)); (· (simp only [Act.put, List.setIfInBounds_toArray, List.set_cons_zero, List.set_cons_succ]; first | done | rfl)))
                refine Sq.done fun y6 hR _ => ?_
                have HY6 : Hid (Below wr.heap.size wr y6) := Lib.hid (below_undrew hR)
                clear hR
                go_wp2
                go_roundw
                case rel => exact ⟨2, by omega, by go_num, Lib.hid (by rw [dk2, HD0.out, HDV.out]; exact HP.out.below HY6.out), Lib.hid (HKP.out.trans (Keep.of_below HY6.out))⟩
                case measure => simp [intOf]
        · obtain ⟨⟨f0', a1'⟩, he0⟩ : ∃ e, dlvF nn f0 a1 = e := ⟨_, rfl⟩
          obtain ⟨⟨f1', a0'⟩, he1⟩ : ∃ e, dlvF nn f1 a0 = e := ⟨_, rfl⟩
          have HOWN := Lib.hid HOWN'.out
          rw [dk2, he0, he1] at HOWN
          have HE0 := Lib.hid he0
          have HE1 := Lib.hid he1
          obtain ⟨g0, g1, A0, A1, c0, c1, hln, hf1, hf2, hf3⟩ := HOWN.out
          have HLN := Lib.hid hln
          have HFF := Lib.hid (And.intro hf1 (And.intro hf2 hf3))
          obtain ⟨⟨⟨lo, hi⟩, bs, ok⟩, hwc⟩ : ∃ e, winC ⟨r, d, p, ws⟩ nn = e := ⟨_, rfl⟩
          have HW := Lib.hid (fun (w' : World) (hb : Below wr.heap.size wr w') => (show Calls Try.prog 53 #[.agg #[.int .i64 r, .int .i64 d, .int .i64 p, .slice A ws.length c], .int .i64 nn] w' fun e w2 => e = .returned (.tuple #[.agg #[.int .i64 lo, .int .i64 hi], .int .i64 bs, .bool ok]) ∧ Below w'.heap.size w' w2 from by
            have := window_any ⟨r, d, p, ws⟩ nn gw c A w' (HLN.out.rw_.below hb) (by have := (chk_ok HOK.out).2.1; simp only at this ⊢; omega) (chk_per HOK.out).1 HRG.out.1 (by have := HRG.out.2.1; omega)
            rw [hwc] at this
            exact this))
          have HWC := Lib.hid hwc
          clear he0 he1 HOWN' HOWN hln hf1 hf2 hf3 hwc
          have LN : Hid (Blk wr b 87 (L87 r d p A ws.length c nn true ses x0 A0 f0'.length c0 a0' x1 A1 f1'.length c1 a1').toArray) := Lib.hid HLN.out.blk
          go_wp2
          cases ok
          · refine wp_region_seqX (nt := 158) (by kernel_rfl) ⟨Rb, some 14, fun j => Nat.beq j 13, PC62 wr.heap.size ⟨lo, hi⟩ 13⟩ [0,1,2,3,4,5,6,7,8,9,10,11,12,13,14,15,16] [] (Rv wr.heap.size 62 F62) Rv.refl Rb.refl Rv.of_rb Rv.trans [(8, fun v _ => v = .tuple #[.agg #[.int .i64 lo, .int .i64 hi], .int .i64 bs, .bool false]), (13, fun v w' => ∃ q, v = .pointer (some ⟨q, 0, none⟩) ∧ wr.heap.size ≤ q ∧ Blk w' q 62 #[.int .i64 0, .int .i64 0]), (14, fun _ _ => True)] (by kernel_rfl) (by simp) rfl (by kernel_rfl) (by simp) ?_ ?_ ?_ ?_
            · rintro f w' w2 _ h2 ⟨q, e1, e2, h⟩
              exact ⟨q, e1, e2, h.below h2⟩
            · intro i hi
              obtain rfl : 14 = i := by simpa [Ext.at] using hi
              rfl
            · refine ⟨fun v w w' h0 h2 h => h, fun v w1 w2 h0 h2 h => ?_, fun _ _ _ _ _ h => h, trivial⟩
              rcases h2 with h2 | h2
              · exact absurd h2.1.1 (fun h => by cases h)
              · obtain ⟨q, e, hq, hb⟩ := h
                exact ⟨q, e, hq, hb.below h2⟩
            iterate 3 (refine' Sq.det (E := _) (b := _) (by rfl) (by rfl) (by rfl) (fun w' hR hf => ?_) ?_ ?_; rotate_left 2; (· (go_simp; first | done | with_reducible rfl)); (· (simp only [Act.put, List.setIfInBounds_toArray, List.set_cons_zero, List.set_cons_succ]; first | done | rfl)))
            (refine' Sq.det (E := _) (b := _) (by rfl) (by rfl) (by rfl) (fun w' hR hf => ?_) ?_ ?_; rotate_left 2; (· (refine exec_load_cells 35 _ b 0 [.int .i64 r, .int .i64 d, .int .i64 p, .slice A ws.length c] ?_ _ Try.underlying35 rfl info35 (fun j u hu => ?_); (· kernel_rfl); (rw [Nat.zero_add, (LN.out.below (rv_below hR)).cell, List.getElem?_toArray]; exact pre4 hu))); (· (simp only [Act.put, List.setIfInBounds_toArray, List.set_cons_zero, List.set_cons_succ]; first | done | rfl)))
            iterate 3 (refine' Sq.det (E := _) (b := _) (by rfl) (by rfl) (by rfl) (fun w' hR hf => ?_) ?_ ?_; rotate_left 2; (· (go_simp; first | done | with_reducible rfl)); (· (simp only [Act.put, List.setIfInBounds_toArray, List.set_cons_zero, List.set_cons_succ]; first | done | rfl)))
            (refine' Sq.det (E := _) (b := _) (by rfl) (by rfl) (by rfl) (fun w' hR hf => ?_) ?_ ?_; rotate_left 2; (· (have hc : w'.cell? ⟨b, 4, none⟩ = some (.int .i64 nn) := (LN.out.below (rv_below hR)).cell 4; go_simp; first | done | with_reducible rfl)); (· (simp only [Act.put, List.setIfInBounds_toArray, List.set_cons_zero, List.set_cons_succ]; first | done | rfl)))
            (refine' Sq.anyX (f := _) (by rfl) (by rfl) (by rfl) (by rfl) (fun w' hR hf => ?_) (fun v => ?_) (fun v8 => ?_); (· (go_wp2_with (go_at_call 53; refine (HW.out w' (rv_below hR)).mono ?_; rintro e w1 ⟨he, hb1⟩; subst he); exact hb1)); rotate_left 1; (· (simp only [Act.put, List.setIfInBounds_toArray, List.set_cons_zero, List.set_cons_succ]; first | done | rfl)))
            (refine' Sq.det (E := _) (b := _) (by rfl) (by rfl) (by rfl) (fun w' hR hf => ?_) ?_ ?_; rotate_left 2; (· (obtain rfl : v8 = .tuple #[.agg #[.int .i64 lo, .int .i64 hi], .int .i64 bs, .bool false] := hf 8 (by decide) _ rfl; go_simp; first | done | with_reducible rfl)); (· (simp only [Act.put, List.setIfInBounds_toArray, List.set_cons_zero, List.set_cons_succ]; first | done | rfl)))
            iterate 3 (refine' Sq.det (E := _) (b := _) (by rfl) (by rfl) (by rfl) (fun w' hR hf => ?_) ?_ ?_; rotate_left 2; (· (go_simp; first | done | with_reducible rfl)); (· (simp only [Act.put, List.setIfInBounds_toArray, List.set_cons_zero, List.set_cons_succ]; first | done | rfl)))
            (refine' Sq.anyX (f := _) (by rfl) (by rfl) (by rfl) (by rfl) (fun w' hR hf => ?_) (fun v => ?_) (fun v13 => ?_); (· (refine wp_alloc_blk 62 rfl z62 [.int .i64 0, .int .i64 0] rfl z62z ?_; intro w1 hk1 hk2; exact ⟨rfl, hk2, _, rfl, (rv_below hR).size, hk1⟩)); rotate_left 1; (· (simp only [Act.put, List.setIfInBounds_toArray, List.set_cons_zero, List.set_cons_succ]; first | done | rfl)))
            (refine' Sq.store (by rfl) (by rfl) (by rfl) (by rfl) (fun w' hR hf => ?_) ?_; (· (obtain ⟨q, hq, hqB, hbq⟩ : ∃ q, v13 = .pointer (some ⟨q, 0, none⟩) ∧ wr.heap.size ≤ q ∧ Blk w' q 62 #[.int .i64 0, .int .i64 0] := hf 13 (by decide) _ rfl; subst hq; refine wp_store_blk 62 _ _ rfl q 0 62 [.int .i64 0, .int .i64 0] (winc ⟨lo, hi⟩) hbq (by kernel_rfl) (by kernel_rfl) size62 (by simp [winc]) (by simp [winc, Value.oneCell']) ?_; intro w1 hn1 hg1 _; refine ⟨rfl, Rv.store hbq ⟨_, _, rfl⟩ hqB hg1, ?_⟩; exact ⟨q, rfl, hqB, by simpa [winc] using hn1⟩)))
            iterate 2 (refine' Sq.det (E := _) (b := _) (by rfl) (by rfl) (by rfl) (fun w' hR hf => ?_) ?_ ?_; rotate_left 2; (· (go_simp; first | done | with_reducible rfl)); (· (simp only [Act.put, List.setIfInBounds_toArray, List.set_cons_zero, List.set_cons_succ]; first | done | rfl)))
            refine Sq.doneX fun w4 hR hp hpc => ?_
            have HB4 := Lib.hid (rv_below hR)
            obtain ⟨q, e1, _, hbq⟩ := hpc 14 (by decide) rfl
            obtain rfl : v13 = .pointer (some ⟨q, 0, none⟩) := e1
            have HQ := Lib.hid hbq
            clear hp hpc hR hbq
            have hc5 : w4.cell? ⟨b, 5, none⟩ = some (.bool true) := (LN.out.below HB4.out).cell 5
            have HLN4 := Lib.hid (HLN.out.below HB4.out)
            go_wp2_with (go_at_call 52; (refine (fall_any HLN4.out).mono ?_; rintro e w5 ⟨rfl, h1, h2⟩; have H1 := Lib.hid h1; have H2 := Lib.hid h2; clear h1 h2))
            first | go_end0 | refine bodyPost_ret (results_none rfl _ _ _) rfl ?_
            exact ⟨rfl, by rw [HEA.out, HEB.out, dk2, HE0.out, HE1.out, HWC.out]; exact ⟨_, _, _, _, _, _, H1.out, HFF.out.1, fun h => absurd h (by omega), fun h => absurd h (by omega)⟩, (HKP0.out.trans (Keep.of_below HB4.out)).trans (Keep.of_grown H2.out HFF.out.1)⟩
          · refine wp_region_seqX (nt := 158) (by kernel_rfl) ⟨Rb, some 14, fun j => Nat.beq j 13, PC62 wr.heap.size ⟨lo, hi⟩ 13⟩ [0,1,2,3,4,5,6,7,8,9,10,11,12,13,14,15,16] [] (Rv wr.heap.size 62 F62) Rv.refl Rb.refl Rv.of_rb Rv.trans [(8, fun v _ => v = .tuple #[.agg #[.int .i64 lo, .int .i64 hi], .int .i64 bs, .bool true]), (13, fun v w' => ∃ q, v = .pointer (some ⟨q, 0, none⟩) ∧ wr.heap.size ≤ q ∧ Blk w' q 62 #[.int .i64 0, .int .i64 0]), (14, fun _ _ => True)] (by kernel_rfl) (by simp) rfl (by kernel_rfl) (by simp) ?_ ?_ ?_ ?_
            · rintro f w' w2 _ h2 ⟨q, e1, e2, h⟩
              exact ⟨q, e1, e2, h.below h2⟩
            · intro i hi
              obtain rfl : 14 = i := by simpa [Ext.at] using hi
              rfl
            · refine ⟨fun v w w' h0 h2 h => h, fun v w1 w2 h0 h2 h => ?_, fun _ _ _ _ _ h => h, trivial⟩
              rcases h2 with h2 | h2
              · exact absurd h2.1.1 (fun h => by cases h)
              · obtain ⟨q, e, hq, hb⟩ := h
                exact ⟨q, e, hq, hb.below h2⟩
            iterate 3 (refine' Sq.det (E := _) (b := _) (by rfl) (by rfl) (by rfl) (fun w' hR hf => ?_) ?_ ?_; rotate_left 2; (· (go_simp; first | done | with_reducible rfl)); (· (simp only [Act.put, List.setIfInBounds_toArray, List.set_cons_zero, List.set_cons_succ]; first | done | rfl)))
            (refine' Sq.det (E := _) (b := _) (by rfl) (by rfl) (by rfl) (fun w' hR hf => ?_) ?_ ?_; rotate_left 2; (· (refine exec_load_cells 35 _ b 0 [.int .i64 r, .int .i64 d, .int .i64 p, .slice A ws.length c] ?_ _ Try.underlying35 rfl info35 (fun j u hu => ?_); (· kernel_rfl); (rw [Nat.zero_add, (LN.out.below (rv_below hR)).cell, List.getElem?_toArray]; exact pre4 hu))); (· (simp only [Act.put, List.setIfInBounds_toArray, List.set_cons_zero, List.set_cons_succ]; first | done | rfl)))
            iterate 3 (refine' Sq.det (E := _) (b := _) (by rfl) (by rfl) (by rfl) (fun w' hR hf => ?_) ?_ ?_; rotate_left 2; (· (go_simp; first | done | with_reducible rfl)); (· (simp only [Act.put, List.setIfInBounds_toArray, List.set_cons_zero, List.set_cons_succ]; first | done | rfl)))
            (refine' Sq.det (E := _) (b := _) (by rfl) (by rfl) (by rfl) (fun w' hR hf => ?_) ?_ ?_; rotate_left 2; (· (have hc : w'.cell? ⟨b, 4, none⟩ = some (.int .i64 nn) := (LN.out.below (rv_below hR)).cell 4; go_simp; first | done | with_reducible rfl)); (· (simp only [Act.put, List.setIfInBounds_toArray, List.set_cons_zero, List.set_cons_succ]; first | done | rfl)))
            (refine' Sq.anyX (f := _) (by rfl) (by rfl) (by rfl) (by rfl) (fun w' hR hf => ?_) (fun v => ?_) (fun v8 => ?_); (· (go_wp2_with (go_at_call 53; refine (HW.out w' (rv_below hR)).mono ?_; rintro e w1 ⟨he, hb1⟩; subst he); exact hb1)); rotate_left 1; (· (simp only [Act.put, List.setIfInBounds_toArray, List.set_cons_zero, List.set_cons_succ]; first | done | rfl)))
            (refine' Sq.det (E := _) (b := _) (by rfl) (by rfl) (by rfl) (fun w' hR hf => ?_) ?_ ?_; rotate_left 2; (· (obtain rfl : v8 = .tuple #[.agg #[.int .i64 lo, .int .i64 hi], .int .i64 bs, .bool true] := hf 8 (by decide) _ rfl; go_simp; first | done | with_reducible rfl)); (· (simp only [Act.put, List.setIfInBounds_toArray, List.set_cons_zero, List.set_cons_succ]; first | done | rfl)))
            iterate 3 (refine' Sq.det (E := _) (b := _) (by rfl) (by rfl) (by rfl) (fun w' hR hf => ?_) ?_ ?_; rotate_left 2; (· (go_simp; first | done | with_reducible rfl)); (· (simp only [Act.put, List.setIfInBounds_toArray, List.set_cons_zero, List.set_cons_succ]; first | done | rfl)))
            (refine' Sq.anyX (f := _) (by rfl) (by rfl) (by rfl) (by rfl) (fun w' hR hf => ?_) (fun v => ?_) (fun v13 => ?_); (· (refine wp_alloc_blk 62 rfl z62 [.int .i64 0, .int .i64 0] rfl z62z ?_; intro w1 hk1 hk2; exact ⟨rfl, hk2, _, rfl, (rv_below hR).size, hk1⟩)); rotate_left 1; (· (simp only [Act.put, List.setIfInBounds_toArray, List.set_cons_zero, List.set_cons_succ]; first | done | rfl)))
            (refine' Sq.store (by rfl) (by rfl) (by rfl) (by rfl) (fun w' hR hf => ?_) ?_; (· (obtain ⟨q, hq, hqB, hbq⟩ : ∃ q, v13 = .pointer (some ⟨q, 0, none⟩) ∧ wr.heap.size ≤ q ∧ Blk w' q 62 #[.int .i64 0, .int .i64 0] := hf 13 (by decide) _ rfl; subst hq; refine wp_store_blk 62 _ _ rfl q 0 62 [.int .i64 0, .int .i64 0] (winc ⟨lo, hi⟩) hbq (by kernel_rfl) (by kernel_rfl) size62 (by simp [winc]) (by simp [winc, Value.oneCell']) ?_; intro w1 hn1 hg1 _; refine ⟨rfl, Rv.store hbq ⟨_, _, rfl⟩ hqB hg1, ?_⟩; exact ⟨q, rfl, hqB, by simpa [winc] using hn1⟩)))
            iterate 2 (refine' Sq.det (E := _) (b := _) (by rfl) (by rfl) (by rfl) (fun w' hR hf => ?_) ?_ ?_; rotate_left 2; (· (go_simp; first | done | with_reducible rfl)); (· (simp only [Act.put, List.setIfInBounds_toArray, List.set_cons_zero, List.set_cons_succ]; first | done | rfl)))
            refine Sq.doneX fun w4 hR hp hpc => ?_
            have HB4 := Lib.hid (rv_below hR)
            obtain ⟨q, e1, _, hbq⟩ := hpc 14 (by decide) rfl
            obtain rfl : v13 = .pointer (some ⟨q, 0, none⟩) := e1
            have HQ := Lib.hid hbq
            clear hp hpc hR hbq
            have hc5 : w4.cell? ⟨b, 5, none⟩ = some (.bool true) := (LN.out.below HB4.out).cell 5
            have HLN4 := Lib.hid (HLN.out.below HB4.out)
            go_wp2
            first | go_end0 | refine bodyPost_ret (results_none rfl _ _ _) rfl ?_
            exact ⟨rfl, by rw [HEA.out, HEB.out, dk2, HE0.out, HE1.out, HWC.out]; exact ⟨_, _, _, _, _, _, HLN4.out, HFF.out⟩, HKP0.out.trans (Keep.of_below HB4.out)⟩

end Go.Proofs.Ytnddahajfcmkiaa
