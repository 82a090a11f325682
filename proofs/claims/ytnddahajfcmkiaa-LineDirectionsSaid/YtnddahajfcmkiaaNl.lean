/- LineDirections' walk. Conditions: none. -/
import Derived.Test.YtnddahajfcmkiaaNk
import Derived.Test.YtnddahajfcmkiaaAd
import Derived.Test.YtnddahajfcmkiaaPu
namespace Go.Proofs.Ytnddahajfcmkiaa
set_option linter.unusedSimpArgs false
set_option linter.unusedVariables false
set_option linter.unnecessarySimpa false
open Go.RowKit
theorem own2_new {w' : World} {B b gw c : Nat} {L : Ln} {A : Option Addr} (hp : POwn (fun _ => False) B w' b L gw A c) (hb : B ≤ b) (hg : 0 < L.cfg.ws.length → B ≤ gw) : Own2 w' (fun k => B ≤ k ∧ k < w'.heap.size) b L gw A c := by
  obtain ⟨g0, g1, A0, A1, c0, c1, h, h2, h3, h4⟩ := hp
  have hbl := h.blk.lt
  refine ⟨⟨g0, g1, A0, A1, c0, c1, h, .inl ⟨hb, hbl⟩, fun hc => ?_, fun hc => ?_⟩, fun k hk => hk.2, ⟨hb, hbl⟩, fun hw => ⟨hg hw, ?_⟩⟩
  · exact .inl ⟨(h3 hc).elim False.elim id, h.t0.lt hc⟩
  · exact .inl ⟨(h4 hc).elim False.elim id, h.t1.lt hc⟩
  · obtain ⟨cs, hcs⟩ := h.tw hw
    exact hcs.lt
theorem newL_cfg (c : Cfg) : (newL c).cfg = c := by
  unfold newL riseL
  split <;> rfl
theorem newL_tot (c : Cfg) : totL (newL c) = 0 := by
  have hz : (⟨#[]⟩ : ByteArray).size = 0 := rfl
  unfold newL riseL
  split <;> simp [totL, totE, wayN, hz]
def DirInv (w0 : World) (b1 b2 gw1 gw2 : Nat) (A1 A2 : Option Addr) (c1 c2 : Nat) (k : Nat) (wr : World) : Prop :=
  ∃ G H L M, Own2 wr G b1 L gw1 A1 c1 ∧ Own2 wr H b2 M gw2 A2 c2 ∧ (∀ k, H k → ¬ G k) ∧ (∀ k, G k → w0.heap.size ≤ k) ∧ (∀ k, H k → w0.heap.size ≤ k) ∧ DirR L M ∧ LnV L ∧ LnV M ∧ totL L ≤ 200 * k ∧ totL M ≤ 200 * k ∧ Below w0.heap.size w0 wr
set_option maxRecDepth 20000 in
set_option maxHeartbeats 8000000 in
theorem lineDirections_any (c : Cfg) (l : List OpL) (g cap go co : Nat) (A Ao : Option Addr) (w : World) (hr : Rd w g 2 A c.ws.length (c.ws.flatMap winc)) (hc : c.ws.length ≤ cap) (hl : cap ≤ maxLen)
    (hro : Rd w go 4 Ao l.length (l.flatMap oplc)) (hlo : l.length ≤ maxLen) (hop : ∀ o ∈ l, o.kind < 256 ∧ o.text.size ≤ maxLen) :
    Calls Try.prog 12 #[.agg (cfgc c A cap).toArray, .slice Ao l.length co] w fun e w' => e = .returned (.bool true) ∧ Below w.heap.size w w' := by
  obtain ⟨K, hK⟩ : ∃ K, chkC (cutC c) = K := ⟨_, rfl⟩
  have HK := Lib.hid hK
  have HR := Lib.hid hr
  have HRO := Lib.hid hro
  have HOP := Lib.hid hop
  have HCL := Lib.hid (And.intro hc hl)
  have HCM : Hid ((cutC c).ws.length ≤ maxLen) := Lib.hid (Nat.le_trans (cut_len c) (by unfold maxLen; omega))
  have HP0 := Lib.hid (Blk.new w 24 (cfgc c A cap).toArray)
  have HB0 := Lib.hid (bnew w (.cells (cfgc c A cap).toArray 24))
  unfold maxLen at hlo
  clear hr hc hl hK hro hop
  by_cases h0 : K = 0
  · subst h0
    go_enter Try.func12, Try.ntmps12
    go_wp2_with ((with_reducible refine at_dst 16 ?_); (refine wpList_load_cells rfl 24 _ rfl w.heap.size 0 (cfgc c A cap) rfl _ Try.underlying24 rfl info24' (fun j u hu => ?_) ?_; (rw [Nat.zero_add, HP0.out.cell, List.getElem?_toArray]; exact hu)))
    refine (cut_at c g cap A _ (HR.out.below HB0.out) HCL.out.1 HCL.out.2).mono ?_
    rintro e y1 ⟨A1, cap1, g1, he, h1, h2, h4, h3⟩
    subst he
    have HR1 := Lib.hid h1
    have HB1 := Lib.hid (HB0.out.trans' h3)
    have HP1 := Lib.hid (HP0.out.below h3)
    have HBS1 := Lib.hid h3
    clear h1 h2 h3 h4
    go_wp2_with fail
    refine (config_any (cutC c) g1 cap1 A1 _ HR1.out HCM.out).mono ?_
    rintro e y2 ⟨A2, cap2, g2, he, h1, h2, h4, h3⟩
    rw [cut_idem] at he h1 h2 h4
    subst he
    have HR2 := Lib.hid h1
    have HB2 := Lib.hid (HB1.out.trans' h3)
    have HP2 := Lib.hid (HP1.out.below h3)
    have HBS2 := Lib.hid (HBS1.out.trans' h3)
    clear h1 h2 h3 h4
    go_wp2_with fail
    refine (new_ok (fun _ => False) y2.heap.size (cutC c) g2 cap2 A2 _ HR2.out HCM.out HK.out (Nat.le_refl _)).mono ?_
    rintro e y3 ⟨b3, gw3, A3, cap3, he, hp, hb, hb1, hb2⟩
    subst he
    have HO3 := Lib.hid (own2_new hp hb1 (by rw [newL_cfg]; exact hb2))
    have HB3 := Lib.hid (HB2.out.trans' hb)
    have HP3 := Lib.hid (HP2.out.below hb)
    have HBS3 := Lib.hid (HBS2.out.trans' hb)
    clear hp hb hb1 hb2
    go_wp2_with ((with_reducible refine at_dst 23 ?_); (refine wpList_load_cells rfl 24 _ rfl w.heap.size 0 (cfgc c A cap) rfl _ Try.underlying24 rfl info24' (fun j u hu => ?_) ?_; (rw [Nat.zero_add, HP3.out.cell, List.getElem?_toArray]; exact hu)))
    refine (cut_at c g cap A _ (HR.out.below HB3.out) HCL.out.1 HCL.out.2).mono ?_
    rintro e y4 ⟨A4, cap4, g4, he, h1, h2, h4, h3⟩
    subst he
    have HR4 := Lib.hid h1
    have HB4 := Lib.hid (HB3.out.trans' h3)
    have HP4 := Lib.hid (HP3.out.below h3)
    have HBS4 := Lib.hid h3
    clear h1 h2 h3 h4
    go_wp2_with fail
    refine (config_any (cutC c) g4 cap4 A4 _ HR4.out HCM.out).mono ?_
    rintro e y5 ⟨A5, cap5, g5, he, h1, h2, h4, h3⟩
    rw [cut_idem] at he h1 h2 h4
    subst he
    have HR5 := Lib.hid h1
    have HB5 := Lib.hid (HB4.out.trans' h3)
    have HP5 := Lib.hid (HP4.out.below h3)
    have HBS5 := Lib.hid (HBS4.out.trans' h3)
    clear h1 h2 h3 h4
    go_wp2_with fail
    refine (new_ok (fun _ => False) y5.heap.size (cutC c) g5 cap5 A5 _ HR5.out HCM.out HK.out (Nat.le_refl _)).mono ?_
    rintro e y6 ⟨b6, gw6, A6, cap6, he, hp, hb, hb1, hb2⟩
    subst he
    have HO6 := Lib.hid (own2_new hp hb1 (by rw [newL_cfg]; exact hb2))
    have HB6 := Lib.hid (HB5.out.trans' hb)
    have HP6 := Lib.hid (HP5.out.below hb)
    have HBS6 := Lib.hid (HBS5.out.trans' hb)
    clear hp hb hb1 hb2
    go_wp2_with fail
    refine (known_any _).mono ?_
    rintro e y7 ⟨he, hb⟩
    subst he
    have HB7 := Lib.hid (HB6.out.trans' hb)
    have HBK7 := Lib.hid hb
    clear hb
    go_wp2_with fail
    have hst : DirInv w b3 b6 gw3 gw6 A3 A6 cap3 cap6 0 y7 := by
      have h36 := HBS6.out.trans' HBK7.out
      refine ⟨_, _, newL (cutC c), newL (cutC c), HO3.out.below h36, HO6.out.below HBK7.out, fun k h1 h2 => ?_, fun k h1 => ?_, fun k h1 => ?_, DirR.refl _, new_v HK.out, new_v HK.out, by rw [newL_tot]; omega, by rw [newL_tot]; omega, HB7.out⟩
      · have := HBS5.out.size; omega
      · exact Nat.le_trans HB2.out.size h1.1
      · exact Nat.le_trans HB5.out.size h1.1
    have HST := Lib.hid hst
    clear hst
    go_loopw [9] (fun iv wr => ∃ k : Nat, k ≤ l.length ∧ k ≤ 30 ∧ iv = .int .i64 k ∧ Hid (DirInv w b3 b6 gw3 gw6 A3 A6 cap3 cap6 k wr)) (fun iv _ => l.length - (intOf iv).toNat)
    case atStart => exact ⟨0, Nat.zero_le _, by omega, rfl, HST⟩
    case round =>
      obtain ⟨k, hk, hk30, rfl, HI⟩ := hrel
      obtain ⟨G, H, L, M, ho1, ho2, hd, hg1, hg2, hdr, hv1, hv2, ht1, ht2, hbw⟩ := HI.out
      have HO1 := Lib.hid ho1
      have HO2 := Lib.hid ho2
      have HD := Lib.hid hd
      have HGG := Lib.hid (And.intro hg1 hg2)
      have HDR := Lib.hid hdr
      have HV := Lib.hid (And.intro hv1 hv2)
      have HT := Lib.hid (And.intro ht1 ht2)
      have HBW := Lib.hid hbw
      clear ho1 ho2 hd hg1 hg2 hdr hv1 hv2 ht1 ht2 hbw HI
      by_cases hlt : k < l.length
      · by_cases h30 : k < 30
        · obtain ⟨hgo, off, rfl, hc⟩ := (HRO.out.below HBW.out).elem oplc_len hlt rfl
          have HC := Lib.hid hc
          obtain ⟨⟨kd, sd, tx, nn⟩, hob⟩ : ∃ ob, bnd l[k] = ob := ⟨_, rfl⟩
          have hkd := (HOP.out l[k] (List.getElem_mem hlt)).1
          have HKD := Lib.hid hkd
          have htx : tx.size ≤ 200 := by have := txt_size l[k].text; have e : (bnd l[k]).text = txt l[k].text := rfl; rw [hob] at e; simp only at e; rw [e]; exact this
          have hkd2 : kd < 256 := by have e : (bnd l[k]).kind = l[k].kind := rfl; rw [hob] at e; simp only at e; omega
          have HOB := Lib.hid hob
          have HTX := Lib.hid htx
          clear hc hgo hob hkd htx
          rcases (by omega : kd % 7 = 0 ∨ kd % 7 = 1 ∨ kd % 7 = 2 ∨ kd % 7 = 3 ∨ kd % 7 = 4 ∨ kd % 7 = 5 ∨ kd % 7 = 6) with hj | hj | hj | hj | hj | hj | hj
          · have hk8 : (kd : Int) % 7 = 0 := by omega
            clear hj
            go_wp2_with (first
              | ((with_reducible refine at_dst 65 ?_); refine wpList_load_cells rfl 27 _ rfl go (off + k * 4) (oplc l[k]) rfl _ Try.underlying27 rfl info27 (fun j u hu => HC.out j u hu) ?_)
              | (go_at_call 36; ((refine (bound_any l[k] _ HKD.out).mono ?_); (rintro e z1 ⟨he, hz⟩; rw [HOB.out] at he; subst he; have HZ := Lib.hid hz; clear hz)))
              | ((with_reducible refine at_dst 10 ?_); (refine wpList_var 27 [.int .u8 kd, .int .i64 sd, .string tx, .int .i64 nn] _ Try.underlying27 z27 info27z rfl (by simp [Value.oneCell']) (by simp [Act.put]) rfl ?_; obtain ⟨zz, hzz⟩ : ∃ x, x = z1.alloc (.cells #[.int .u8 kd, .int .i64 sd, .string tx, .int .i64 nn] 27) := ⟨_, rfl⟩; have hbz : Below wr.heap.size wr zz := (by rw [hzz]; exact HZ.out.trans' (bnew _ _)); have hq : Blk zz z1.heap.size 27 #[.int .u8 kd, .int .i64 sd, .string tx, .int .i64 nn] := (by rw [hzz]; exact Blk.new _ _ _); have HQ := Lib.hid hq; have HOZ1 := Lib.hid (HO1.out.below hbz); have HOZ2 := Lib.hid (HO2.out.below hbz); have HBZ := Lib.hid (HBW.out.trans' hbz); have HNG := Lib.hid (show ¬ G z1.heap.size from fun h => (by have := HO1.out.lt _ h; have := HZ.out.size; omega)); have HNH := Lib.hid (show ¬ H z1.heap.size from fun h => (by have := HO2.out.lt _ h; have := HZ.out.size; omega)); have hc0 : zz.cell? ⟨z1.heap.size, 0, none⟩ = some (.int .u8 kd) := hq.cell 0; have hc1 : zz.cell? ⟨z1.heap.size, 1, none⟩ = some (.int .i64 sd) := hq.cell 1; have hc2 : zz.cell? ⟨z1.heap.size, 2, none⟩ = some (.string tx) := hq.cell 2; have hc3 : zz.cell? ⟨z1.heap.size, 3, none⟩ = some (.int .i64 nn) := hq.cell 3; rw [← hzz]; clear hzz hbz hq)))
            by_cases hs1 : sd = 1
            · subst hs1
              refine (p_send 1 tx HOZ1.out.own HV.out.1 (by have := HTX.out; omega)).mono ?_
              rintro e z2 ⟨he, hp, hk2⟩
              subst he
              have HX1 := Lib.hid (HOZ1.out.step hp hk2 (send_cfg _ _ _))
              have HX2 := Lib.hid (HOZ2.out.keep hk2 HD.out)
              have HXQ := Lib.hid (hk2.blk HQ.out HNG.out)
              have HXB := Lib.hid (hk2.base HBZ.out HBZ.out.size HGG.out.1)
              have HXD := Lib.hid (grow_apart (w' := z2) HD.out HOZ2.out.lt)
              have HXG := Lib.hid (grow_ge (w' := z2) HGG.out.1 HBZ.out.size)
              have HXNH := Lib.hid HNH.out
              clear hp hk2 hc0 hc1 hc2 hc3
              have hc1 : z2.cell? ⟨z1.heap.size, 1, none⟩ = some (.int .i64 1) := HXQ.out.cell 1
              have hc2 : z2.cell? ⟨z1.heap.size, 2, none⟩ = some (.string tx) := HXQ.out.cell 2
              have hc3 : z2.cell? ⟨z1.heap.size, 3, none⟩ = some (.int .i64 nn) := HXQ.out.cell 3
              go_wp2_with fail
              have HDR2 : Hid (DirR (sendL L 1 tx).1 M) := Lib.hid (by exact send1_DirR HDR.out tx)
              obtain ⟨u, hu⟩ : ∃ u, (M).up = u := ⟨_, rfl⟩
              have HU1 : Hid (((sendL L 1 tx).1).up = u) := Lib.hid (HDR2.out.2.2.1.trans hu)
              have HU2 := Lib.hid hu
              obtain ⟨wt, hwt⟩ : ∃ x : Int, (if validS 0 then ((((M).ed 0).wait.size : Nat) : Int) else 0) = x := ⟨_, rfl⟩
              have HW2 := Lib.hid hwt
              have HW1 : Hid ((if validS 0 then (((((sendL L 1 tx).1).ed 0).wait.size : Nat) : Int) else 0) = wt) := Lib.hid (by rw [← hwt]; simp only [Ln.ed, if_true, HDR2.out.2.2.2.2.1])
              obtain ⟨wy, hwy⟩ : ∃ x : Int, (if validS 0 then ((wayN ((M).ed 0).fl : Nat) : Int) else 0) = x := ⟨_, rfl⟩
              have HY2 := Lib.hid hwy
              have HY1 : Hid ((if validS 0 then ((wayN (((sendL L 1 tx).1).ed 0).fl : Nat) : Int) else 0) = wy) := Lib.hid (by rw [← hwy]; simp only [Ln.ed, if_true, HDR2.out.2.2.2.2.2.1])
              have HVV : Hid (LnV ((sendL L 1 tx).1) ∧ LnV (M) ∧ totL ((sendL L 1 tx).1) ≤ 200 * (k + 1) ∧ totL (M) ≤ 200 * (k + 1)) := Lib.hid (by have h1 := HT.out; have h2 := HTX.out; have h3 := send_v (s := 1) (t := tx) HV.out.1 (by omega); exact ⟨h3.1, HV.out.2, by omega, by omega⟩)
              clear hu hwt hwy
              refine (p_up HX1.out.own).mono ?_
              rintro e w' ⟨he, hw⟩
              subst hw
              rw [HU1.out] at he
              subst he
              go_wp2_with fail
              refine (p_up HX2.out.own).mono ?_
              rintro e w' ⟨he, hw⟩
              subst hw
              rw [HU2.out] at he
              subst he
              go_wp2_with fail
              refine (p_wait 0 HX1.out.own).mono ?_
              rintro e w' ⟨he, hw⟩
              subst hw
              rw [HW1.out] at he
              subst he
              go_wp2_with fail
              refine (p_wait 0 HX2.out.own).mono ?_
              rintro e w' ⟨he, hw⟩
              subst hw
              rw [HW2.out] at he
              subst he
              go_wp2_with fail
              refine (p_way 0 HX1.out.own HVV.out.1).mono ?_
              rintro e v1 ⟨he, hbv⟩
              rw [HY1.out] at he
              subst he
              have HE1 := Lib.hid (HX1.out.below hbv)
              have HE2 := Lib.hid (HX2.out.below hbv)
              have HBE := Lib.hid (HXB.out.trans' hbv)
              clear hbv
              go_wp2_with fail
              refine (p_way 0 HE2.out.own HVV.out.2.1).mono ?_
              rintro e v2 ⟨he, hbv⟩
              rw [HY2.out] at he
              subst he
              have HF1 := Lib.hid (HE1.out.below hbv)
              have HF2 := Lib.hid (HE2.out.below hbv)
              have HBF := Lib.hid (HBE.out.trans' hbv)
              clear hbv
              go_wp2_with fail
              go_roundw
              case rel => exact ⟨k + 1, by omega, by omega, by go_num, Lib.hid ⟨_, _, _, _, HF1.out, HF2.out, HXD.out, HXG.out, HGG.out.2, HDR2.out, HVV.out.1, HVV.out.2.1, HVV.out.2.2.1, HVV.out.2.2.2, HBF.out⟩⟩
              case measure => simp [intOf]; omega
            · refine (p_send sd tx HOZ1.out.own HV.out.1 (by have := HTX.out; omega)).mono ?_
              rintro e z2 ⟨he, hp, hk2⟩
              subst he
              have HX1 := Lib.hid (HOZ1.out.step hp hk2 (send_cfg _ _ _))
              have HX2 := Lib.hid (HOZ2.out.keep hk2 HD.out)
              have HXQ := Lib.hid (hk2.blk HQ.out HNG.out)
              have HXB := Lib.hid (hk2.base HBZ.out HBZ.out.size HGG.out.1)
              have HXD := Lib.hid (grow_apart (w' := z2) HD.out HOZ2.out.lt)
              have HXG := Lib.hid (grow_ge (w' := z2) HGG.out.1 HBZ.out.size)
              have HXNH := Lib.hid HNH.out
              clear hp hk2 hc0 hc1 hc2 hc3
              have hc1 : z2.cell? ⟨z1.heap.size, 1, none⟩ = some (.int .i64 sd) := HXQ.out.cell 1
              have hc2 : z2.cell? ⟨z1.heap.size, 2, none⟩ = some (.string tx) := HXQ.out.cell 2
              have hc3 : z2.cell? ⟨z1.heap.size, 3, none⟩ = some (.int .i64 nn) := HXQ.out.cell 3
              have hsb : (sd == 1) = false := by simpa using hs1
              go_wp2_with fail
              refine (p_send sd tx HX2.out.own HV.out.2 (by have := HTX.out; omega)).mono ?_
              rintro e z3 ⟨he, hp, hk2⟩
              subst he
              have HM2 := Lib.hid (HX2.out.step hp hk2 (send_cfg _ _ _))
              have HM1 := Lib.hid (HX1.out.keep hk2 (fun k hg hh => HXD.out k hh hg))
              have HMB := Lib.hid (hk2.base HXB.out HXB.out.size HGG.out.2)
              have HMD := Lib.hid (grow_apart' (w' := z3) (w := z2) (G := H) (fun k hh hg => HXD.out k hh hg) HX1.out.lt)
              have HMG := Lib.hid (grow_ge (w' := z3) HGG.out.2 HXB.out.size)
              clear hp hk2
              go_wp2_with fail
              have HDR2 : Hid (DirR (sendL L sd tx).1 (sendL M sd tx).1) := Lib.hid (by exact send_DirR HDR.out hs1 tx)
              obtain ⟨u, hu⟩ : ∃ u, ((sendL M sd tx).1).up = u := ⟨_, rfl⟩
              have HU1 : Hid (((sendL L sd tx).1).up = u) := Lib.hid (HDR2.out.2.2.1.trans hu)
              have HU2 := Lib.hid hu
              obtain ⟨wt, hwt⟩ : ∃ x : Int, (if validS 0 then (((((sendL M sd tx).1).ed 0).wait.size : Nat) : Int) else 0) = x := ⟨_, rfl⟩
              have HW2 := Lib.hid hwt
              have HW1 : Hid ((if validS 0 then (((((sendL L sd tx).1).ed 0).wait.size : Nat) : Int) else 0) = wt) := Lib.hid (by rw [← hwt]; simp only [Ln.ed, if_true, HDR2.out.2.2.2.2.1])
              obtain ⟨wy, hwy⟩ : ∃ x : Int, (if validS 0 then ((wayN (((sendL M sd tx).1).ed 0).fl : Nat) : Int) else 0) = x := ⟨_, rfl⟩
              have HY2 := Lib.hid hwy
              have HY1 : Hid ((if validS 0 then ((wayN (((sendL L sd tx).1).ed 0).fl : Nat) : Int) else 0) = wy) := Lib.hid (by rw [← hwy]; simp only [Ln.ed, if_true, HDR2.out.2.2.2.2.2.1])
              have HVV : Hid (LnV ((sendL L sd tx).1) ∧ LnV ((sendL M sd tx).1) ∧ totL ((sendL L sd tx).1) ≤ 200 * (k + 1) ∧ totL ((sendL M sd tx).1) ≤ 200 * (k + 1)) := Lib.hid (by have h1 := HT.out; have h2 := HTX.out; have h3 := send_v (s := sd) (t := tx) HV.out.1 (by omega); have h4 := send_v (s := sd) (t := tx) HV.out.2 (by omega); exact ⟨h3.1, h4.1, by omega, by omega⟩)
              clear hu hwt hwy
              refine (p_up HM1.out.own).mono ?_
              rintro e w' ⟨he, hw⟩
              subst hw
              rw [HU1.out] at he
              subst he
              go_wp2_with fail
              refine (p_up HM2.out.own).mono ?_
              rintro e w' ⟨he, hw⟩
              subst hw
              rw [HU2.out] at he
              subst he
              go_wp2_with fail
              refine (p_wait 0 HM1.out.own).mono ?_
              rintro e w' ⟨he, hw⟩
              subst hw
              rw [HW1.out] at he
              subst he
              go_wp2_with fail
              refine (p_wait 0 HM2.out.own).mono ?_
              rintro e w' ⟨he, hw⟩
              subst hw
              rw [HW2.out] at he
              subst he
              go_wp2_with fail
              refine (p_way 0 HM1.out.own HVV.out.1).mono ?_
              rintro e v1 ⟨he, hbv⟩
              rw [HY1.out] at he
              subst he
              have HE1 := Lib.hid (HM1.out.below hbv)
              have HE2 := Lib.hid (HM2.out.below hbv)
              have HBE := Lib.hid (HMB.out.trans' hbv)
              clear hbv
              go_wp2_with fail
              refine (p_way 0 HE2.out.own HVV.out.2.1).mono ?_
              rintro e v2 ⟨he, hbv⟩
              rw [HY2.out] at he
              subst he
              have HF1 := Lib.hid (HE1.out.below hbv)
              have HF2 := Lib.hid (HE2.out.below hbv)
              have HBF := Lib.hid (HBE.out.trans' hbv)
              clear hbv
              go_wp2_with fail
              go_roundw
              case rel => exact ⟨k + 1, by omega, by omega, by go_num, Lib.hid ⟨_, _, _, _, HF1.out, HF2.out, HMD.out, HXG.out, HMG.out, HDR2.out, HVV.out.1, HVV.out.2.1, HVV.out.2.2.1, HVV.out.2.2.2, HBF.out⟩⟩
              case measure => simp [intOf]; omega
          · have hk8 : (kd : Int) % 7 = 1 := by omega
            clear hj
            go_wp2_with (first
              | ((with_reducible refine at_dst 65 ?_); refine wpList_load_cells rfl 27 _ rfl go (off + k * 4) (oplc l[k]) rfl _ Try.underlying27 rfl info27 (fun j u hu => HC.out j u hu) ?_)
              | (go_at_call 36; ((refine (bound_any l[k] _ HKD.out).mono ?_); (rintro e z1 ⟨he, hz⟩; rw [HOB.out] at he; subst he; have HZ := Lib.hid hz; clear hz)))
              | ((with_reducible refine at_dst 10 ?_); (refine wpList_var 27 [.int .u8 kd, .int .i64 sd, .string tx, .int .i64 nn] _ Try.underlying27 z27 info27z rfl (by simp [Value.oneCell']) (by simp [Act.put]) rfl ?_; obtain ⟨zz, hzz⟩ : ∃ x, x = z1.alloc (.cells #[.int .u8 kd, .int .i64 sd, .string tx, .int .i64 nn] 27) := ⟨_, rfl⟩; have hbz : Below wr.heap.size wr zz := (by rw [hzz]; exact HZ.out.trans' (bnew _ _)); have hq : Blk zz z1.heap.size 27 #[.int .u8 kd, .int .i64 sd, .string tx, .int .i64 nn] := (by rw [hzz]; exact Blk.new _ _ _); have HQ := Lib.hid hq; have HOZ1 := Lib.hid (HO1.out.below hbz); have HOZ2 := Lib.hid (HO2.out.below hbz); have HBZ := Lib.hid (HBW.out.trans' hbz); have HNG := Lib.hid (show ¬ G z1.heap.size from fun h => (by have := HO1.out.lt _ h; have := HZ.out.size; omega)); have HNH := Lib.hid (show ¬ H z1.heap.size from fun h => (by have := HO2.out.lt _ h; have := HZ.out.size; omega)); have hc0 : zz.cell? ⟨z1.heap.size, 0, none⟩ = some (.int .u8 kd) := hq.cell 0; have hc1 : zz.cell? ⟨z1.heap.size, 1, none⟩ = some (.int .i64 sd) := hq.cell 1; have hc2 : zz.cell? ⟨z1.heap.size, 2, none⟩ = some (.string tx) := hq.cell 2; have hc3 : zz.cell? ⟨z1.heap.size, 3, none⟩ = some (.int .i64 nn) := hq.cell 3; rw [← hzz]; clear hzz hbz hq)))
            by_cases hs1 : sd = 1
            · subst hs1
              refine (p_send 1 tx HOZ1.out.own HV.out.1 (by have := HTX.out; omega)).mono ?_
              rintro e z2 ⟨he, hp, hk2⟩
              subst he
              have HX1 := Lib.hid (HOZ1.out.step hp hk2 (send_cfg _ _ _))
              have HX2 := Lib.hid (HOZ2.out.keep hk2 HD.out)
              have HXQ := Lib.hid (hk2.blk HQ.out HNG.out)
              have HXB := Lib.hid (hk2.base HBZ.out HBZ.out.size HGG.out.1)
              have HXD := Lib.hid (grow_apart (w' := z2) HD.out HOZ2.out.lt)
              have HXG := Lib.hid (grow_ge (w' := z2) HGG.out.1 HBZ.out.size)
              have HXNH := Lib.hid HNH.out
              clear hp hk2 hc0 hc1 hc2 hc3
              have hc1 : z2.cell? ⟨z1.heap.size, 1, none⟩ = some (.int .i64 1) := HXQ.out.cell 1
              have hc2 : z2.cell? ⟨z1.heap.size, 2, none⟩ = some (.string tx) := HXQ.out.cell 2
              have hc3 : z2.cell? ⟨z1.heap.size, 3, none⟩ = some (.int .i64 nn) := HXQ.out.cell 3
              go_wp2_with fail
              have HDR2 : Hid (DirR (sendL L 1 tx).1 M) := Lib.hid (by exact send1_DirR HDR.out tx)
              obtain ⟨u, hu⟩ : ∃ u, (M).up = u := ⟨_, rfl⟩
              have HU1 : Hid (((sendL L 1 tx).1).up = u) := Lib.hid (HDR2.out.2.2.1.trans hu)
              have HU2 := Lib.hid hu
              obtain ⟨wt, hwt⟩ : ∃ x : Int, (if validS 0 then ((((M).ed 0).wait.size : Nat) : Int) else 0) = x := ⟨_, rfl⟩
              have HW2 := Lib.hid hwt
              have HW1 : Hid ((if validS 0 then (((((sendL L 1 tx).1).ed 0).wait.size : Nat) : Int) else 0) = wt) := Lib.hid (by rw [← hwt]; simp only [Ln.ed, if_true, HDR2.out.2.2.2.2.1])
              obtain ⟨wy, hwy⟩ : ∃ x : Int, (if validS 0 then ((wayN ((M).ed 0).fl : Nat) : Int) else 0) = x := ⟨_, rfl⟩
              have HY2 := Lib.hid hwy
              have HY1 : Hid ((if validS 0 then ((wayN (((sendL L 1 tx).1).ed 0).fl : Nat) : Int) else 0) = wy) := Lib.hid (by rw [← hwy]; simp only [Ln.ed, if_true, HDR2.out.2.2.2.2.2.1])
              have HVV : Hid (LnV ((sendL L 1 tx).1) ∧ LnV (M) ∧ totL ((sendL L 1 tx).1) ≤ 200 * (k + 1) ∧ totL (M) ≤ 200 * (k + 1)) := Lib.hid (by have h1 := HT.out; have h2 := HTX.out; have h3 := send_v (s := 1) (t := tx) HV.out.1 (by omega); exact ⟨h3.1, HV.out.2, by omega, by omega⟩)
              clear hu hwt hwy
              refine (p_up HX1.out.own).mono ?_
              rintro e w' ⟨he, hw⟩
              subst hw
              rw [HU1.out] at he
              subst he
              go_wp2_with fail
              refine (p_up HX2.out.own).mono ?_
              rintro e w' ⟨he, hw⟩
              subst hw
              rw [HU2.out] at he
              subst he
              go_wp2_with fail
              refine (p_wait 0 HX1.out.own).mono ?_
              rintro e w' ⟨he, hw⟩
              subst hw
              rw [HW1.out] at he
              subst he
              go_wp2_with fail
              refine (p_wait 0 HX2.out.own).mono ?_
              rintro e w' ⟨he, hw⟩
              subst hw
              rw [HW2.out] at he
              subst he
              go_wp2_with fail
              refine (p_way 0 HX1.out.own HVV.out.1).mono ?_
              rintro e v1 ⟨he, hbv⟩
              rw [HY1.out] at he
              subst he
              have HE1 := Lib.hid (HX1.out.below hbv)
              have HE2 := Lib.hid (HX2.out.below hbv)
              have HBE := Lib.hid (HXB.out.trans' hbv)
              clear hbv
              go_wp2_with fail
              refine (p_way 0 HE2.out.own HVV.out.2.1).mono ?_
              rintro e v2 ⟨he, hbv⟩
              rw [HY2.out] at he
              subst he
              have HF1 := Lib.hid (HE1.out.below hbv)
              have HF2 := Lib.hid (HE2.out.below hbv)
              have HBF := Lib.hid (HBE.out.trans' hbv)
              clear hbv
              go_wp2_with fail
              go_roundw
              case rel => exact ⟨k + 1, by omega, by omega, by go_num, Lib.hid ⟨_, _, _, _, HF1.out, HF2.out, HXD.out, HXG.out, HGG.out.2, HDR2.out, HVV.out.1, HVV.out.2.1, HVV.out.2.2.1, HVV.out.2.2.2, HBF.out⟩⟩
              case measure => simp [intOf]; omega
            · refine (p_send sd tx HOZ1.out.own HV.out.1 (by have := HTX.out; omega)).mono ?_
              rintro e z2 ⟨he, hp, hk2⟩
              subst he
              have HX1 := Lib.hid (HOZ1.out.step hp hk2 (send_cfg _ _ _))
              have HX2 := Lib.hid (HOZ2.out.keep hk2 HD.out)
              have HXQ := Lib.hid (hk2.blk HQ.out HNG.out)
              have HXB := Lib.hid (hk2.base HBZ.out HBZ.out.size HGG.out.1)
              have HXD := Lib.hid (grow_apart (w' := z2) HD.out HOZ2.out.lt)
              have HXG := Lib.hid (grow_ge (w' := z2) HGG.out.1 HBZ.out.size)
              have HXNH := Lib.hid HNH.out
              clear hp hk2 hc0 hc1 hc2 hc3
              have hc1 : z2.cell? ⟨z1.heap.size, 1, none⟩ = some (.int .i64 sd) := HXQ.out.cell 1
              have hc2 : z2.cell? ⟨z1.heap.size, 2, none⟩ = some (.string tx) := HXQ.out.cell 2
              have hc3 : z2.cell? ⟨z1.heap.size, 3, none⟩ = some (.int .i64 nn) := HXQ.out.cell 3
              have hsb : (sd == 1) = false := by simpa using hs1
              go_wp2_with fail
              refine (p_send sd tx HX2.out.own HV.out.2 (by have := HTX.out; omega)).mono ?_
              rintro e z3 ⟨he, hp, hk2⟩
              subst he
              have HM2 := Lib.hid (HX2.out.step hp hk2 (send_cfg _ _ _))
              have HM1 := Lib.hid (HX1.out.keep hk2 (fun k hg hh => HXD.out k hh hg))
              have HMB := Lib.hid (hk2.base HXB.out HXB.out.size HGG.out.2)
              have HMD := Lib.hid (grow_apart' (w' := z3) (w := z2) (G := H) (fun k hh hg => HXD.out k hh hg) HX1.out.lt)
              have HMG := Lib.hid (grow_ge (w' := z3) HGG.out.2 HXB.out.size)
              clear hp hk2
              go_wp2_with fail
              have HDR2 : Hid (DirR (sendL L sd tx).1 (sendL M sd tx).1) := Lib.hid (by exact send_DirR HDR.out hs1 tx)
              obtain ⟨u, hu⟩ : ∃ u, ((sendL M sd tx).1).up = u := ⟨_, rfl⟩
              have HU1 : Hid (((sendL L sd tx).1).up = u) := Lib.hid (HDR2.out.2.2.1.trans hu)
              have HU2 := Lib.hid hu
              obtain ⟨wt, hwt⟩ : ∃ x : Int, (if validS 0 then (((((sendL M sd tx).1).ed 0).wait.size : Nat) : Int) else 0) = x := ⟨_, rfl⟩
              have HW2 := Lib.hid hwt
              have HW1 : Hid ((if validS 0 then (((((sendL L sd tx).1).ed 0).wait.size : Nat) : Int) else 0) = wt) := Lib.hid (by rw [← hwt]; simp only [Ln.ed, if_true, HDR2.out.2.2.2.2.1])
              obtain ⟨wy, hwy⟩ : ∃ x : Int, (if validS 0 then ((wayN (((sendL M sd tx).1).ed 0).fl : Nat) : Int) else 0) = x := ⟨_, rfl⟩
              have HY2 := Lib.hid hwy
              have HY1 : Hid ((if validS 0 then ((wayN (((sendL L sd tx).1).ed 0).fl : Nat) : Int) else 0) = wy) := Lib.hid (by rw [← hwy]; simp only [Ln.ed, if_true, HDR2.out.2.2.2.2.2.1])
              have HVV : Hid (LnV ((sendL L sd tx).1) ∧ LnV ((sendL M sd tx).1) ∧ totL ((sendL L sd tx).1) ≤ 200 * (k + 1) ∧ totL ((sendL M sd tx).1) ≤ 200 * (k + 1)) := Lib.hid (by have h1 := HT.out; have h2 := HTX.out; have h3 := send_v (s := sd) (t := tx) HV.out.1 (by omega); have h4 := send_v (s := sd) (t := tx) HV.out.2 (by omega); exact ⟨h3.1, h4.1, by omega, by omega⟩)
              clear hu hwt hwy
              refine (p_up HM1.out.own).mono ?_
              rintro e w' ⟨he, hw⟩
              subst hw
              rw [HU1.out] at he
              subst he
              go_wp2_with fail
              refine (p_up HM2.out.own).mono ?_
              rintro e w' ⟨he, hw⟩
              subst hw
              rw [HU2.out] at he
              subst he
              go_wp2_with fail
              refine (p_wait 0 HM1.out.own).mono ?_
              rintro e w' ⟨he, hw⟩
              subst hw
              rw [HW1.out] at he
              subst he
              go_wp2_with fail
              refine (p_wait 0 HM2.out.own).mono ?_
              rintro e w' ⟨he, hw⟩
              subst hw
              rw [HW2.out] at he
              subst he
              go_wp2_with fail
              refine (p_way 0 HM1.out.own HVV.out.1).mono ?_
              rintro e v1 ⟨he, hbv⟩
              rw [HY1.out] at he
              subst he
              have HE1 := Lib.hid (HM1.out.below hbv)
              have HE2 := Lib.hid (HM2.out.below hbv)
              have HBE := Lib.hid (HMB.out.trans' hbv)
              clear hbv
              go_wp2_with fail
              refine (p_way 0 HE2.out.own HVV.out.2.1).mono ?_
              rintro e v2 ⟨he, hbv⟩
              rw [HY2.out] at he
              subst he
              have HF1 := Lib.hid (HE1.out.below hbv)
              have HF2 := Lib.hid (HE2.out.below hbv)
              have HBF := Lib.hid (HBE.out.trans' hbv)
              clear hbv
              go_wp2_with fail
              go_roundw
              case rel => exact ⟨k + 1, by omega, by omega, by go_num, Lib.hid ⟨_, _, _, _, HF1.out, HF2.out, HMD.out, HXG.out, HMG.out, HDR2.out, HVV.out.1, HVV.out.2.1, HVV.out.2.2.1, HVV.out.2.2.2, HBF.out⟩⟩
              case measure => simp [intOf]; omega
          · have hk8 : (kd : Int) % 7 = 2 := by omega
            clear hj
            go_wp2_with (first
              | ((with_reducible refine at_dst 65 ?_); refine wpList_load_cells rfl 27 _ rfl go (off + k * 4) (oplc l[k]) rfl _ Try.underlying27 rfl info27 (fun j u hu => HC.out j u hu) ?_)
              | (go_at_call 36; ((refine (bound_any l[k] _ HKD.out).mono ?_); (rintro e z1 ⟨he, hz⟩; rw [HOB.out] at he; subst he; have HZ := Lib.hid hz; clear hz)))
              | ((with_reducible refine at_dst 10 ?_); (refine wpList_var 27 [.int .u8 kd, .int .i64 sd, .string tx, .int .i64 nn] _ Try.underlying27 z27 info27z rfl (by simp [Value.oneCell']) (by simp [Act.put]) rfl ?_; obtain ⟨zz, hzz⟩ : ∃ x, x = z1.alloc (.cells #[.int .u8 kd, .int .i64 sd, .string tx, .int .i64 nn] 27) := ⟨_, rfl⟩; have hbz : Below wr.heap.size wr zz := (by rw [hzz]; exact HZ.out.trans' (bnew _ _)); have hq : Blk zz z1.heap.size 27 #[.int .u8 kd, .int .i64 sd, .string tx, .int .i64 nn] := (by rw [hzz]; exact Blk.new _ _ _); have HQ := Lib.hid hq; have HOZ1 := Lib.hid (HO1.out.below hbz); have HOZ2 := Lib.hid (HO2.out.below hbz); have HBZ := Lib.hid (HBW.out.trans' hbz); have HNG := Lib.hid (show ¬ G z1.heap.size from fun h => (by have := HO1.out.lt _ h; have := HZ.out.size; omega)); have HNH := Lib.hid (show ¬ H z1.heap.size from fun h => (by have := HO2.out.lt _ h; have := HZ.out.size; omega)); have hc0 : zz.cell? ⟨z1.heap.size, 0, none⟩ = some (.int .u8 kd) := hq.cell 0; have hc1 : zz.cell? ⟨z1.heap.size, 1, none⟩ = some (.int .i64 sd) := hq.cell 1; have hc2 : zz.cell? ⟨z1.heap.size, 2, none⟩ = some (.string tx) := hq.cell 2; have hc3 : zz.cell? ⟨z1.heap.size, 3, none⟩ = some (.int .i64 nn) := hq.cell 3; rw [← hzz]; clear hzz hbz hq)))
            obtain ⟨t0, e0, hre⟩ : ∃ t e, (recvL M 1 nn).2 = (t, e) := ⟨_, _, rfl⟩
            have HR2 := Lib.hid hre
            have HR1 : Hid ((recvL L 1 nn).2 = (t0, e0)) := Lib.hid ((recv_DirR HDR.out nn).2.trans hre)
            clear hre
            refine (p_recv 1 nn HOZ1.out.own).mono ?_
            rintro e z2 ⟨he, hp, hk2⟩
            rw [HR1.out] at he; subst he
            have HX1 := Lib.hid (HOZ1.out.step hp hk2 (recv_cfg _ _ _))
            have HX2 := Lib.hid (HOZ2.out.keep hk2 HD.out)
            have HXQ := Lib.hid (hk2.blk HQ.out HNG.out)
            have HXB := Lib.hid (hk2.base HBZ.out HBZ.out.size HGG.out.1)
            have HXD := Lib.hid (grow_apart (w' := z2) HD.out HOZ2.out.lt)
            have HXG := Lib.hid (grow_ge (w' := z2) HGG.out.1 HBZ.out.size)
            have HXNH := Lib.hid HNH.out
            clear hp hk2 hc0 hc1 hc2 hc3
            have hc1 : z2.cell? ⟨z1.heap.size, 1, none⟩ = some (.int .i64 sd) := HXQ.out.cell 1
            have hc2 : z2.cell? ⟨z1.heap.size, 2, none⟩ = some (.string tx) := HXQ.out.cell 2
            have hc3 : z2.cell? ⟨z1.heap.size, 3, none⟩ = some (.int .i64 nn) := HXQ.out.cell 3
            go_wp2_with fail
            refine (p_recv 1 nn HX2.out.own).mono ?_
            rintro e z3 ⟨he, hp, hk2⟩
            rw [HR2.out] at he; subst he
            have HM2 := Lib.hid (HX2.out.step hp hk2 (recv_cfg _ _ _))
            have HM1 := Lib.hid (HX1.out.keep hk2 (fun k hg hh => HXD.out k hh hg))
            have HMB := Lib.hid (hk2.base HXB.out HXB.out.size HGG.out.2)
            have HMD := Lib.hid (grow_apart' (w' := z3) (w := z2) (G := H) (fun k hh hg => HXD.out k hh hg) HX1.out.lt)
            have HMG := Lib.hid (grow_ge (w' := z3) HGG.out.2 HXB.out.size)
            clear hp hk2
            go_wp2_with fail
            have HDR2 : Hid (DirR (recvL L 1 nn).1 (recvL M 1 nn).1) := Lib.hid (by exact (recv_DirR HDR.out nn).1)
            obtain ⟨u, hu⟩ : ∃ u, ((recvL M 1 nn).1).up = u := ⟨_, rfl⟩
            have HU1 : Hid (((recvL L 1 nn).1).up = u) := Lib.hid (HDR2.out.2.2.1.trans hu)
            have HU2 := Lib.hid hu
            obtain ⟨wt, hwt⟩ : ∃ x : Int, (if validS 0 then (((((recvL M 1 nn).1).ed 0).wait.size : Nat) : Int) else 0) = x := ⟨_, rfl⟩
            have HW2 := Lib.hid hwt
            have HW1 : Hid ((if validS 0 then (((((recvL L 1 nn).1).ed 0).wait.size : Nat) : Int) else 0) = wt) := Lib.hid (by rw [← hwt]; simp only [Ln.ed, if_true, HDR2.out.2.2.2.2.1])
            obtain ⟨wy, hwy⟩ : ∃ x : Int, (if validS 0 then ((wayN (((recvL M 1 nn).1).ed 0).fl : Nat) : Int) else 0) = x := ⟨_, rfl⟩
            have HY2 := Lib.hid hwy
            have HY1 : Hid ((if validS 0 then ((wayN (((recvL L 1 nn).1).ed 0).fl : Nat) : Int) else 0) = wy) := Lib.hid (by rw [← hwy]; simp only [Ln.ed, if_true, HDR2.out.2.2.2.2.2.1])
            have HVV : Hid (LnV ((recvL L 1 nn).1) ∧ LnV ((recvL M 1 nn).1) ∧ totL ((recvL L 1 nn).1) ≤ 200 * (k + 1) ∧ totL ((recvL M 1 nn).1) ≤ 200 * (k + 1)) := Lib.hid (by have h1 := HT.out; have h3 := recv_v (s := 1) (m := nn) HV.out.1; have h4 := recv_v (s := 1) (m := nn) HV.out.2; exact ⟨h3.1, h4.1, by omega, by omega⟩)
            clear hu hwt hwy
            refine (p_up HM1.out.own).mono ?_
            rintro e w' ⟨he, hw⟩
            subst hw
            rw [HU1.out] at he
            subst he
            go_wp2_with fail
            refine (p_up HM2.out.own).mono ?_
            rintro e w' ⟨he, hw⟩
            subst hw
            rw [HU2.out] at he
            subst he
            go_wp2_with fail
            refine (p_wait 0 HM1.out.own).mono ?_
            rintro e w' ⟨he, hw⟩
            subst hw
            rw [HW1.out] at he
            subst he
            go_wp2_with fail
            refine (p_wait 0 HM2.out.own).mono ?_
            rintro e w' ⟨he, hw⟩
            subst hw
            rw [HW2.out] at he
            subst he
            go_wp2_with fail
            refine (p_way 0 HM1.out.own HVV.out.1).mono ?_
            rintro e v1 ⟨he, hbv⟩
            rw [HY1.out] at he
            subst he
            have HE1 := Lib.hid (HM1.out.below hbv)
            have HE2 := Lib.hid (HM2.out.below hbv)
            have HBE := Lib.hid (HMB.out.trans' hbv)
            clear hbv
            go_wp2_with fail
            refine (p_way 0 HE2.out.own HVV.out.2.1).mono ?_
            rintro e v2 ⟨he, hbv⟩
            rw [HY2.out] at he
            subst he
            have HF1 := Lib.hid (HE1.out.below hbv)
            have HF2 := Lib.hid (HE2.out.below hbv)
            have HBF := Lib.hid (HBE.out.trans' hbv)
            clear hbv
            go_wp2_with fail
            go_roundw
            case rel => exact ⟨k + 1, by omega, by omega, by go_num, Lib.hid ⟨_, _, _, _, HF1.out, HF2.out, HMD.out, HXG.out, HMG.out, HDR2.out, HVV.out.1, HVV.out.2.1, HVV.out.2.2.1, HVV.out.2.2.2, HBF.out⟩⟩
            case measure => simp [intOf]; omega
          · have hk8 : (kd : Int) % 7 = 3 := by omega
            clear hj
            go_wp2_with (first
              | ((with_reducible refine at_dst 65 ?_); refine wpList_load_cells rfl 27 _ rfl go (off + k * 4) (oplc l[k]) rfl _ Try.underlying27 rfl info27 (fun j u hu => HC.out j u hu) ?_)
              | (go_at_call 36; ((refine (bound_any l[k] _ HKD.out).mono ?_); (rintro e z1 ⟨he, hz⟩; rw [HOB.out] at he; subst he; have HZ := Lib.hid hz; clear hz)))
              | ((with_reducible refine at_dst 10 ?_); (refine wpList_var 27 [.int .u8 kd, .int .i64 sd, .string tx, .int .i64 nn] _ Try.underlying27 z27 info27z rfl (by simp [Value.oneCell']) (by simp [Act.put]) rfl ?_; obtain ⟨zz, hzz⟩ : ∃ x, x = z1.alloc (.cells #[.int .u8 kd, .int .i64 sd, .string tx, .int .i64 nn] 27) := ⟨_, rfl⟩; have hbz : Below wr.heap.size wr zz := (by rw [hzz]; exact HZ.out.trans' (bnew _ _)); have hq : Blk zz z1.heap.size 27 #[.int .u8 kd, .int .i64 sd, .string tx, .int .i64 nn] := (by rw [hzz]; exact Blk.new _ _ _); have HQ := Lib.hid hq; have HOZ1 := Lib.hid (HO1.out.below hbz); have HOZ2 := Lib.hid (HO2.out.below hbz); have HBZ := Lib.hid (HBW.out.trans' hbz); have HNG := Lib.hid (show ¬ G z1.heap.size from fun h => (by have := HO1.out.lt _ h; have := HZ.out.size; omega)); have HNH := Lib.hid (show ¬ H z1.heap.size from fun h => (by have := HO2.out.lt _ h; have := HZ.out.size; omega)); have hc0 : zz.cell? ⟨z1.heap.size, 0, none⟩ = some (.int .u8 kd) := hq.cell 0; have hc1 : zz.cell? ⟨z1.heap.size, 1, none⟩ = some (.int .i64 sd) := hq.cell 1; have hc2 : zz.cell? ⟨z1.heap.size, 2, none⟩ = some (.string tx) := hq.cell 2; have hc3 : zz.cell? ⟨z1.heap.size, 3, none⟩ = some (.int .i64 nn) := hq.cell 3; rw [← hzz]; clear hzz hbz hq)))
            obtain ⟨t0, e0, hre⟩ : ∃ t e, (recvL M 1 nn).2 = (t, e) := ⟨_, _, rfl⟩
            have HR2 := Lib.hid hre
            have HR1 : Hid ((recvL L 1 nn).2 = (t0, e0)) := Lib.hid ((recv_DirR HDR.out nn).2.trans hre)
            clear hre
            refine (p_recv 1 nn HOZ1.out.own).mono ?_
            rintro e z2 ⟨he, hp, hk2⟩
            rw [HR1.out] at he; subst he
            have HX1 := Lib.hid (HOZ1.out.step hp hk2 (recv_cfg _ _ _))
            have HX2 := Lib.hid (HOZ2.out.keep hk2 HD.out)
            have HXQ := Lib.hid (hk2.blk HQ.out HNG.out)
            have HXB := Lib.hid (hk2.base HBZ.out HBZ.out.size HGG.out.1)
            have HXD := Lib.hid (grow_apart (w' := z2) HD.out HOZ2.out.lt)
            have HXG := Lib.hid (grow_ge (w' := z2) HGG.out.1 HBZ.out.size)
            have HXNH := Lib.hid HNH.out
            clear hp hk2 hc0 hc1 hc2 hc3
            have hc1 : z2.cell? ⟨z1.heap.size, 1, none⟩ = some (.int .i64 sd) := HXQ.out.cell 1
            have hc2 : z2.cell? ⟨z1.heap.size, 2, none⟩ = some (.string tx) := HXQ.out.cell 2
            have hc3 : z2.cell? ⟨z1.heap.size, 3, none⟩ = some (.int .i64 nn) := HXQ.out.cell 3
            go_wp2_with fail
            refine (p_recv 1 nn HX2.out.own).mono ?_
            rintro e z3 ⟨he, hp, hk2⟩
            rw [HR2.out] at he; subst he
            have HM2 := Lib.hid (HX2.out.step hp hk2 (recv_cfg _ _ _))
            have HM1 := Lib.hid (HX1.out.keep hk2 (fun k hg hh => HXD.out k hh hg))
            have HMB := Lib.hid (hk2.base HXB.out HXB.out.size HGG.out.2)
            have HMD := Lib.hid (grow_apart' (w' := z3) (w := z2) (G := H) (fun k hh hg => HXD.out k hh hg) HX1.out.lt)
            have HMG := Lib.hid (grow_ge (w' := z3) HGG.out.2 HXB.out.size)
            clear hp hk2
            go_wp2_with fail
            have HDR2 : Hid (DirR (recvL L 1 nn).1 (recvL M 1 nn).1) := Lib.hid (by exact (recv_DirR HDR.out nn).1)
            obtain ⟨u, hu⟩ : ∃ u, ((recvL M 1 nn).1).up = u := ⟨_, rfl⟩
            have HU1 : Hid (((recvL L 1 nn).1).up = u) := Lib.hid (HDR2.out.2.2.1.trans hu)
            have HU2 := Lib.hid hu
            obtain ⟨wt, hwt⟩ : ∃ x : Int, (if validS 0 then (((((recvL M 1 nn).1).ed 0).wait.size : Nat) : Int) else 0) = x := ⟨_, rfl⟩
            have HW2 := Lib.hid hwt
            have HW1 : Hid ((if validS 0 then (((((recvL L 1 nn).1).ed 0).wait.size : Nat) : Int) else 0) = wt) := Lib.hid (by rw [← hwt]; simp only [Ln.ed, if_true, HDR2.out.2.2.2.2.1])
            obtain ⟨wy, hwy⟩ : ∃ x : Int, (if validS 0 then ((wayN (((recvL M 1 nn).1).ed 0).fl : Nat) : Int) else 0) = x := ⟨_, rfl⟩
            have HY2 := Lib.hid hwy
            have HY1 : Hid ((if validS 0 then ((wayN (((recvL L 1 nn).1).ed 0).fl : Nat) : Int) else 0) = wy) := Lib.hid (by rw [← hwy]; simp only [Ln.ed, if_true, HDR2.out.2.2.2.2.2.1])
            have HVV : Hid (LnV ((recvL L 1 nn).1) ∧ LnV ((recvL M 1 nn).1) ∧ totL ((recvL L 1 nn).1) ≤ 200 * (k + 1) ∧ totL ((recvL M 1 nn).1) ≤ 200 * (k + 1)) := Lib.hid (by have h1 := HT.out; have h3 := recv_v (s := 1) (m := nn) HV.out.1; have h4 := recv_v (s := 1) (m := nn) HV.out.2; exact ⟨h3.1, h4.1, by omega, by omega⟩)
            clear hu hwt hwy
            refine (p_up HM1.out.own).mono ?_
            rintro e w' ⟨he, hw⟩
            subst hw
            rw [HU1.out] at he
            subst he
            go_wp2_with fail
            refine (p_up HM2.out.own).mono ?_
            rintro e w' ⟨he, hw⟩
            subst hw
            rw [HU2.out] at he
            subst he
            go_wp2_with fail
            refine (p_wait 0 HM1.out.own).mono ?_
            rintro e w' ⟨he, hw⟩
            subst hw
            rw [HW1.out] at he
            subst he
            go_wp2_with fail
            refine (p_wait 0 HM2.out.own).mono ?_
            rintro e w' ⟨he, hw⟩
            subst hw
            rw [HW2.out] at he
            subst he
            go_wp2_with fail
            refine (p_way 0 HM1.out.own HVV.out.1).mono ?_
            rintro e v1 ⟨he, hbv⟩
            rw [HY1.out] at he
            subst he
            have HE1 := Lib.hid (HM1.out.below hbv)
            have HE2 := Lib.hid (HM2.out.below hbv)
            have HBE := Lib.hid (HMB.out.trans' hbv)
            clear hbv
            go_wp2_with fail
            refine (p_way 0 HE2.out.own HVV.out.2.1).mono ?_
            rintro e v2 ⟨he, hbv⟩
            rw [HY2.out] at he
            subst he
            have HF1 := Lib.hid (HE1.out.below hbv)
            have HF2 := Lib.hid (HE2.out.below hbv)
            have HBF := Lib.hid (HBE.out.trans' hbv)
            clear hbv
            go_wp2_with fail
            go_roundw
            case rel => exact ⟨k + 1, by omega, by omega, by go_num, Lib.hid ⟨_, _, _, _, HF1.out, HF2.out, HMD.out, HXG.out, HMG.out, HDR2.out, HVV.out.1, HVV.out.2.1, HVV.out.2.2.1, HVV.out.2.2.2, HBF.out⟩⟩
            case measure => simp [intOf]; omega
          · have hk8 : (kd : Int) % 7 = 4 := by omega
            clear hj
            go_wp2_with (first
              | ((with_reducible refine at_dst 65 ?_); refine wpList_load_cells rfl 27 _ rfl go (off + k * 4) (oplc l[k]) rfl _ Try.underlying27 rfl info27 (fun j u hu => HC.out j u hu) ?_)
              | (go_at_call 36; ((refine (bound_any l[k] _ HKD.out).mono ?_); (rintro e z1 ⟨he, hz⟩; rw [HOB.out] at he; subst he; have HZ := Lib.hid hz; clear hz)))
              | ((with_reducible refine at_dst 10 ?_); (refine wpList_var 27 [.int .u8 kd, .int .i64 sd, .string tx, .int .i64 nn] _ Try.underlying27 z27 info27z rfl (by simp [Value.oneCell']) (by simp [Act.put]) rfl ?_; obtain ⟨zz, hzz⟩ : ∃ x, x = z1.alloc (.cells #[.int .u8 kd, .int .i64 sd, .string tx, .int .i64 nn] 27) := ⟨_, rfl⟩; have hbz : Below wr.heap.size wr zz := (by rw [hzz]; exact HZ.out.trans' (bnew _ _)); have hq : Blk zz z1.heap.size 27 #[.int .u8 kd, .int .i64 sd, .string tx, .int .i64 nn] := (by rw [hzz]; exact Blk.new _ _ _); have HQ := Lib.hid hq; have HOZ1 := Lib.hid (HO1.out.below hbz); have HOZ2 := Lib.hid (HO2.out.below hbz); have HBZ := Lib.hid (HBW.out.trans' hbz); have HNG := Lib.hid (show ¬ G z1.heap.size from fun h => (by have := HO1.out.lt _ h; have := HZ.out.size; omega)); have HNH := Lib.hid (show ¬ H z1.heap.size from fun h => (by have := HO2.out.lt _ h; have := HZ.out.size; omega)); have hc0 : zz.cell? ⟨z1.heap.size, 0, none⟩ = some (.int .u8 kd) := hq.cell 0; have hc1 : zz.cell? ⟨z1.heap.size, 1, none⟩ = some (.int .i64 sd) := hq.cell 1; have hc2 : zz.cell? ⟨z1.heap.size, 2, none⟩ = some (.string tx) := hq.cell 2; have hc3 : zz.cell? ⟨z1.heap.size, 3, none⟩ = some (.int .i64 nn) := hq.cell 3; rw [← hzz]; clear hzz hbz hq)))
            obtain ⟨e0, hre⟩ : ∃ e, (advL M nn).2 = e := ⟨_, rfl⟩
            have HR2 := Lib.hid hre
            have HR1 : Hid ((advL L nn).2 = e0) := Lib.hid ((adv_DirR HDR.out nn).2.trans hre)
            clear hre hc0 hc1 hc2 hc3
            refine wp_region_tok (nt := 149) (by kernel_rfl) [0,1,2,3,4,5,6,7,8] [] (RA w z1.heap.size G H b3 b6 gw3 gw6 A3 A6 cap3 cap6 (advL L nn).1 (advL M nn).1) RA.refl RA.trans [(3, fun v x => v = .int .i64 e0 ∧ PA w H b3 gw3 A3 cap3 (advL L nn).1 x), (7, fun v x => v = .int .i64 e0 ∧ JA w G b3 b6 gw3 gw6 A3 A6 cap3 cap6 (advL L nn).1 (advL M nn).1 x)] (by kernel_rfl) (by simp) rfl (by kernel_rfl) (by simp) ?stab (TA G H b3 b6 gw3 gw6 A3 A6 cap3 cap6 L M) ?tok ?_
            case stab => exact ⟨fun v x y _ hR h => ⟨h.1, hR.2.1 h.2⟩, fun v x y _ hR h => ⟨h.1, hR.2.2 h.2⟩, trivial⟩
            case tok => exact fun i => ⟨fun _ => HOZ1.out.below ⟨rfl, rfl, rfl, Nat.le_refl _, fun _ _ => rfl⟩, fun _ => HOZ2.out.below ⟨rfl, rfl, rfl, Nat.le_refl _, fun _ _ => rfl⟩⟩
            iterate 2 (refine' St.det (E := _) (b := _) (by rfl) (by rfl) (by rfl) (fun w' hR hf => ?_) ?_ ?_; rotate_left 2; (· (go_simp; first | done | with_reducible rfl)); (· (simp only [Act.put, List.setIfInBounds_toArray, List.set_cons_zero, List.set_cons_succ]; first | done | rfl)))
            (refine' St.det (E := _) (b := _) (by rfl) (by rfl) (by rfl) (fun w' hR hf => ?_) ?_ ?_; rotate_left 2; (· (have hc : w'.cell? ⟨z1.heap.size, 3, none⟩ = some (.int .i64 nn) := (hR.1.2.2.2.2.1 _ HQ.out).cell 3; go_simp; first | done | with_reducible rfl)); (· (simp only [Act.put, List.setIfInBounds_toArray, List.set_cons_zero, List.set_cons_succ]; first | done | rfl)))
            (refine' St.any (f := _) (by rfl) (by rfl) (by rfl) (fun w' hR hf ht => ?_) (fun v => ?_) (fun v3 => ?_); (· (go_wp2_with (go_at_call 30; refine (p_adv nn (ht.1 rfl).own (Nat.le_refl _) HV.out.1).mono ?_; rintro e w1 ⟨he, hp, hk⟩; rw [HR1.out] at he; subst he); have hHl : ∀ k, H k → k < w'.heap.size := fun k hh => Nat.lt_of_lt_of_le (HOZ2.out.lt k hh) hR.1.2.2.2.1; have hbb := Nat.le_trans HBZ.out.size hR.1.2.2.2.1; exact ⟨RA.step3 (ht.1 rfl) hp hk (adv_cfg _ _) HD.out HGG.out.1 hHl hbb HNG.out, fun j hj h => ⟨fun e => absurd e hj, fun e => (h.2 e).keep hk HD.out⟩, PA.of (ht.1 rfl) hp hk (adv_cfg _ _) HD.out HGG.out.1 hHl hbb⟩)); rotate_left 1; (· (simp only [Act.put, List.setIfInBounds_toArray, List.set_cons_zero, List.set_cons_succ]; first | done | rfl)))
            iterate 2 (refine' St.det (E := _) (b := _) (by rfl) (by rfl) (by rfl) (fun w' hR hf => ?_) ?_ ?_; rotate_left 2; (· (go_simp; first | done | with_reducible rfl)); (· (simp only [Act.put, List.setIfInBounds_toArray, List.set_cons_zero, List.set_cons_succ]; first | done | rfl)))
            (refine' St.det (E := _) (b := _) (by rfl) (by rfl) (by rfl) (fun w' hR hf => ?_) ?_ ?_; rotate_left 2; (· (have hc : w'.cell? ⟨z1.heap.size, 3, none⟩ = some (.int .i64 nn) := (hR.1.2.2.2.2.1 _ HQ.out).cell 3; go_simp; first | done | with_reducible rfl)); (· (simp only [Act.put, List.setIfInBounds_toArray, List.set_cons_zero, List.set_cons_succ]; first | done | rfl)))
            (refine' St.any (f := _) (by rfl) (by rfl) (by rfl) (fun w' hR hf ht => ?_) (fun v => ?_) (fun v7 => ?_); (· (obtain ⟨_, hP3⟩ := hf 3 (by decide) _ rfl; go_wp2_with (go_at_call 30; refine (p_adv nn (ht.2 rfl).own (Nat.le_refl _) HV.out.2).mono ?_; rintro e w1 ⟨he, hp, hk⟩; rw [HR2.out] at he; subst he); have hGl : ∀ k, G k → k < w'.heap.size := fun k hh => Nat.lt_of_lt_of_le (HOZ1.out.lt k hh) hR.1.2.2.2.1; have hbb := Nat.le_trans HBZ.out.size hR.1.2.2.2.1; exact ⟨RA.step7 (ht.2 rfl) hP3 hp hk (adv_cfg _ _) HD.out HGG.out.2 hGl hbb HNH.out, fun j hj h => ⟨fun e => (h.1 e).keep hk (fun k h1 h2 => HD.out k h2 h1), fun e => absurd e hj⟩, JA.of (ht.2 rfl) hP3 hp hk (adv_cfg _ _) HD.out HGG.out.2 hGl hbb⟩)); rotate_left 1; (· (simp only [Act.put, List.setIfInBounds_toArray, List.set_cons_zero, List.set_cons_succ]; first | done | rfl)))
            (refine' St.det (E := _) (b := _) (by rfl) (by rfl) (by rfl) (fun w' hR hf => ?_) ?_ ?_; rotate_left 2; (· (obtain ⟨rfl, _⟩ : v3 = .int .i64 e0 ∧ _ := hf 3 (by decide) _ rfl; obtain ⟨rfl, _⟩ : v7 = .int .i64 e0 ∧ _ := hf 7 (by decide) _ rfl; go_simp; first | done | with_reducible rfl)); (· (simp only [Act.put, List.setIfInBounds_toArray, List.set_cons_zero, List.set_cons_succ]; first | done | rfl)))
            refine St.done fun z3 hR hp => ?_
            have hj7 : v7 = .int .i64 e0 ∧ JA w G b3 b6 gw3 gw6 A3 A6 cap3 cap6 (advL L nn).1 (advL M nn).1 z3 := hp 7 (by decide) _ rfl
            obtain ⟨G', H', m1, m2, m3, _, m5, m6⟩ := hj7.2
            have HM1 := Lib.hid m1
            have HM2 := Lib.hid m2
            have HMD := Lib.hid m3
            have HMG := Lib.hid m5
            have HMH := Lib.hid m6
            have HMB := Lib.hid (hR.1.2.2.2.2.2 (HBZ.out.trans' ⟨rfl, rfl, rfl, Nat.le_refl _, fun _ _ => rfl⟩))
            clear hR hp hj7 m1 m2 m3 m5 m6
            go_wp2_with fail
            have HDR2 : Hid (DirR (advL L nn).1 (advL M nn).1) := Lib.hid (by exact (adv_DirR HDR.out nn).1)
            obtain ⟨u, hu⟩ : ∃ u, ((advL M nn).1).up = u := ⟨_, rfl⟩
            have HU1 : Hid (((advL L nn).1).up = u) := Lib.hid (HDR2.out.2.2.1.trans hu)
            have HU2 := Lib.hid hu
            obtain ⟨wt, hwt⟩ : ∃ x : Int, (if validS 0 then (((((advL M nn).1).ed 0).wait.size : Nat) : Int) else 0) = x := ⟨_, rfl⟩
            have HW2 := Lib.hid hwt
            have HW1 : Hid ((if validS 0 then (((((advL L nn).1).ed 0).wait.size : Nat) : Int) else 0) = wt) := Lib.hid (by rw [← hwt]; simp only [Ln.ed, if_true, HDR2.out.2.2.2.2.1])
            obtain ⟨wy, hwy⟩ : ∃ x : Int, (if validS 0 then ((wayN (((advL M nn).1).ed 0).fl : Nat) : Int) else 0) = x := ⟨_, rfl⟩
            have HY2 := Lib.hid hwy
            have HY1 : Hid ((if validS 0 then ((wayN (((advL L nn).1).ed 0).fl : Nat) : Int) else 0) = wy) := Lib.hid (by rw [← hwy]; simp only [Ln.ed, if_true, HDR2.out.2.2.2.2.2.1])
            have HVV : Hid (LnV ((advL L nn).1) ∧ LnV ((advL M nn).1) ∧ totL ((advL L nn).1) ≤ 200 * (k + 1) ∧ totL ((advL M nn).1) ≤ 200 * (k + 1)) := Lib.hid (by have h1 := HT.out; have h3 := adv_v (n := nn) HV.out.1; have h4 := adv_v (n := nn) HV.out.2; exact ⟨h3.1, h4.1, by omega, by omega⟩)
            clear hu hwt hwy
            refine (p_up HM1.out.own).mono ?_
            rintro e w' ⟨he, hw⟩
            subst hw
            rw [HU1.out] at he
            subst he
            go_wp2_with fail
            refine (p_up HM2.out.own).mono ?_
            rintro e w' ⟨he, hw⟩
            subst hw
            rw [HU2.out] at he
            subst he
            go_wp2_with fail
            refine (p_wait 0 HM1.out.own).mono ?_
            rintro e w' ⟨he, hw⟩
            subst hw
            rw [HW1.out] at he
            subst he
            go_wp2_with fail
            refine (p_wait 0 HM2.out.own).mono ?_
            rintro e w' ⟨he, hw⟩
            subst hw
            rw [HW2.out] at he
            subst he
            go_wp2_with fail
            refine (p_way 0 HM1.out.own HVV.out.1).mono ?_
            rintro e v1 ⟨he, hbv⟩
            rw [HY1.out] at he
            subst he
            have HE1 := Lib.hid (HM1.out.below hbv)
            have HE2 := Lib.hid (HM2.out.below hbv)
            have HBE := Lib.hid (HMB.out.trans' hbv)
            clear hbv
            go_wp2_with fail
            refine (p_way 0 HE2.out.own HVV.out.2.1).mono ?_
            rintro e v2 ⟨he, hbv⟩
            rw [HY2.out] at he
            subst he
            have HF1 := Lib.hid (HE1.out.below hbv)
            have HF2 := Lib.hid (HE2.out.below hbv)
            have HBF := Lib.hid (HBE.out.trans' hbv)
            clear hbv
            go_wp2_with fail
            go_roundw
            case rel => exact ⟨k + 1, by omega, by omega, by go_num, Lib.hid ⟨_, _, _, _, HF1.out, HF2.out, HMD.out, HMG.out, HMH.out, HDR2.out, HVV.out.1, HVV.out.2.1, HVV.out.2.2.1, HVV.out.2.2.2, HBF.out⟩⟩
            case measure => simp [intOf]; omega
          · have hk8 : (kd : Int) % 7 = 5 := by omega
            clear hj
            go_wp2_with (first
              | ((with_reducible refine at_dst 65 ?_); refine wpList_load_cells rfl 27 _ rfl go (off + k * 4) (oplc l[k]) rfl _ Try.underlying27 rfl info27 (fun j u hu => HC.out j u hu) ?_)
              | (go_at_call 36; ((refine (bound_any l[k] _ HKD.out).mono ?_); (rintro e z1 ⟨he, hz⟩; rw [HOB.out] at he; subst he; have HZ := Lib.hid hz; clear hz)))
              | ((with_reducible refine at_dst 10 ?_); (refine wpList_var 27 [.int .u8 kd, .int .i64 sd, .string tx, .int .i64 nn] _ Try.underlying27 z27 info27z rfl (by simp [Value.oneCell']) (by simp [Act.put]) rfl ?_; obtain ⟨zz, hzz⟩ : ∃ x, x = z1.alloc (.cells #[.int .u8 kd, .int .i64 sd, .string tx, .int .i64 nn] 27) := ⟨_, rfl⟩; have hbz : Below wr.heap.size wr zz := (by rw [hzz]; exact HZ.out.trans' (bnew _ _)); have hq : Blk zz z1.heap.size 27 #[.int .u8 kd, .int .i64 sd, .string tx, .int .i64 nn] := (by rw [hzz]; exact Blk.new _ _ _); have HQ := Lib.hid hq; have HOZ1 := Lib.hid (HO1.out.below hbz); have HOZ2 := Lib.hid (HO2.out.below hbz); have HBZ := Lib.hid (HBW.out.trans' hbz); have HNG := Lib.hid (show ¬ G z1.heap.size from fun h => (by have := HO1.out.lt _ h; have := HZ.out.size; omega)); have HNH := Lib.hid (show ¬ H z1.heap.size from fun h => (by have := HO2.out.lt _ h; have := HZ.out.size; omega)); have hc0 : zz.cell? ⟨z1.heap.size, 0, none⟩ = some (.int .u8 kd) := hq.cell 0; have hc1 : zz.cell? ⟨z1.heap.size, 1, none⟩ = some (.int .i64 sd) := hq.cell 1; have hc2 : zz.cell? ⟨z1.heap.size, 2, none⟩ = some (.string tx) := hq.cell 2; have hc3 : zz.cell? ⟨z1.heap.size, 3, none⟩ = some (.int .i64 nn) := hq.cell 3; rw [← hzz]; clear hzz hbz hq)))
            obtain ⟨e0, hre⟩ : ∃ e, (advL M nn).2 = e := ⟨_, rfl⟩
            have HR2 := Lib.hid hre
            have HR1 : Hid ((advL L nn).2 = e0) := Lib.hid ((adv_DirR HDR.out nn).2.trans hre)
            clear hre hc0 hc1 hc2 hc3
            refine wp_region_tok (nt := 149) (by kernel_rfl) [0,1,2,3,4,5,6,7,8] [] (RA w z1.heap.size G H b3 b6 gw3 gw6 A3 A6 cap3 cap6 (advL L nn).1 (advL M nn).1) RA.refl RA.trans [(3, fun v x => v = .int .i64 e0 ∧ PA w H b3 gw3 A3 cap3 (advL L nn).1 x), (7, fun v x => v = .int .i64 e0 ∧ JA w G b3 b6 gw3 gw6 A3 A6 cap3 cap6 (advL L nn).1 (advL M nn).1 x)] (by kernel_rfl) (by simp) rfl (by kernel_rfl) (by simp) ?stab (TA G H b3 b6 gw3 gw6 A3 A6 cap3 cap6 L M) ?tok ?_
            case stab => exact ⟨fun v x y _ hR h => ⟨h.1, hR.2.1 h.2⟩, fun v x y _ hR h => ⟨h.1, hR.2.2 h.2⟩, trivial⟩
            case tok => exact fun i => ⟨fun _ => HOZ1.out.below ⟨rfl, rfl, rfl, Nat.le_refl _, fun _ _ => rfl⟩, fun _ => HOZ2.out.below ⟨rfl, rfl, rfl, Nat.le_refl _, fun _ _ => rfl⟩⟩
            iterate 2 (refine' St.det (E := _) (b := _) (by rfl) (by rfl) (by rfl) (fun w' hR hf => ?_) ?_ ?_; rotate_left 2; (· (go_simp; first | done | with_reducible rfl)); (· (simp only [Act.put, List.setIfInBounds_toArray, List.set_cons_zero, List.set_cons_succ]; first | done | rfl)))
            (refine' St.det (E := _) (b := _) (by rfl) (by rfl) (by rfl) (fun w' hR hf => ?_) ?_ ?_; rotate_left 2; (· (have hc : w'.cell? ⟨z1.heap.size, 3, none⟩ = some (.int .i64 nn) := (hR.1.2.2.2.2.1 _ HQ.out).cell 3; go_simp; first | done | with_reducible rfl)); (· (simp only [Act.put, List.setIfInBounds_toArray, List.set_cons_zero, List.set_cons_succ]; first | done | rfl)))
            (refine' St.any (f := _) (by rfl) (by rfl) (by rfl) (fun w' hR hf ht => ?_) (fun v => ?_) (fun v3 => ?_); (· (go_wp2_with (go_at_call 30; refine (p_adv nn (ht.1 rfl).own (Nat.le_refl _) HV.out.1).mono ?_; rintro e w1 ⟨he, hp, hk⟩; rw [HR1.out] at he; subst he); have hHl : ∀ k, H k → k < w'.heap.size := fun k hh => Nat.lt_of_lt_of_le (HOZ2.out.lt k hh) hR.1.2.2.2.1; have hbb := Nat.le_trans HBZ.out.size hR.1.2.2.2.1; exact ⟨RA.step3 (ht.1 rfl) hp hk (adv_cfg _ _) HD.out HGG.out.1 hHl hbb HNG.out, fun j hj h => ⟨fun e => absurd e hj, fun e => (h.2 e).keep hk HD.out⟩, PA.of (ht.1 rfl) hp hk (adv_cfg _ _) HD.out HGG.out.1 hHl hbb⟩)); rotate_left 1; (· (simp only [Act.put, List.setIfInBounds_toArray, List.set_cons_zero, List.set_cons_succ]; first | done | rfl)))
            iterate 2 (refine' St.det (E := _) (b := _) (by rfl) (by rfl) (by rfl) (fun w' hR hf => ?_) ?_ ?_; rotate_left 2; (· (go_simp; first | done | with_reducible rfl)); (· (simp only [Act.put, List.setIfInBounds_toArray, List.set_cons_zero, List.set_cons_succ]; first | done | rfl)))
            (refine' St.det (E := _) (b := _) (by rfl) (by rfl) (by rfl) (fun w' hR hf => ?_) ?_ ?_; rotate_left 2; (· (have hc : w'.cell? ⟨z1.heap.size, 3, none⟩ = some (.int .i64 nn) := (hR.1.2.2.2.2.1 _ HQ.out).cell 3; go_simp; first | done | with_reducible rfl)); (· (simp only [Act.put, List.setIfInBounds_toArray, List.set_cons_zero, List.set_cons_succ]; first | done | rfl)))
            (refine' St.any (f := _) (by rfl) (by rfl) (by rfl) (fun w' hR hf ht => ?_) (fun v => ?_) (fun v7 => ?_); (· (obtain ⟨_, hP3⟩ := hf 3 (by decide) _ rfl; go_wp2_with (go_at_call 30; refine (p_adv nn (ht.2 rfl).own (Nat.le_refl _) HV.out.2).mono ?_; rintro e w1 ⟨he, hp, hk⟩; rw [HR2.out] at he; subst he); have hGl : ∀ k, G k → k < w'.heap.size := fun k hh => Nat.lt_of_lt_of_le (HOZ1.out.lt k hh) hR.1.2.2.2.1; have hbb := Nat.le_trans HBZ.out.size hR.1.2.2.2.1; exact ⟨RA.step7 (ht.2 rfl) hP3 hp hk (adv_cfg _ _) HD.out HGG.out.2 hGl hbb HNH.out, fun j hj h => ⟨fun e => (h.1 e).keep hk (fun k h1 h2 => HD.out k h2 h1), fun e => absurd e hj⟩, JA.of (ht.2 rfl) hP3 hp hk (adv_cfg _ _) HD.out HGG.out.2 hGl hbb⟩)); rotate_left 1; (· (simp only [Act.put, List.setIfInBounds_toArray, List.set_cons_zero, List.set_cons_succ]; first | done | rfl)))
            (refine' St.det (E := _) (b := _) (by rfl) (by rfl) (by rfl) (fun w' hR hf => ?_) ?_ ?_; rotate_left 2; (· (obtain ⟨rfl, _⟩ : v3 = .int .i64 e0 ∧ _ := hf 3 (by decide) _ rfl; obtain ⟨rfl, _⟩ : v7 = .int .i64 e0 ∧ _ := hf 7 (by decide) _ rfl; go_simp; first | done | with_reducible rfl)); (· (simp only [Act.put, List.setIfInBounds_toArray, List.set_cons_zero, List.set_cons_succ]; first | done | rfl)))
            refine St.done fun z3 hR hp => ?_
            have hj7 : v7 = .int .i64 e0 ∧ JA w G b3 b6 gw3 gw6 A3 A6 cap3 cap6 (advL L nn).1 (advL M nn).1 z3 := hp 7 (by decide) _ rfl
            obtain ⟨G', H', m1, m2, m3, _, m5, m6⟩ := hj7.2
            have HM1 := Lib.hid m1
            have HM2 := Lib.hid m2
            have HMD := Lib.hid m3
            have HMG := Lib.hid m5
            have HMH := Lib.hid m6
            have HMB := Lib.hid (hR.1.2.2.2.2.2 (HBZ.out.trans' ⟨rfl, rfl, rfl, Nat.le_refl _, fun _ _ => rfl⟩))
            clear hR hp hj7 m1 m2 m3 m5 m6
            go_wp2_with fail
            have HDR2 : Hid (DirR (advL L nn).1 (advL M nn).1) := Lib.hid (by exact (adv_DirR HDR.out nn).1)
            obtain ⟨u, hu⟩ : ∃ u, ((advL M nn).1).up = u := ⟨_, rfl⟩
            have HU1 : Hid (((advL L nn).1).up = u) := Lib.hid (HDR2.out.2.2.1.trans hu)
            have HU2 := Lib.hid hu
            obtain ⟨wt, hwt⟩ : ∃ x : Int, (if validS 0 then (((((advL M nn).1).ed 0).wait.size : Nat) : Int) else 0) = x := ⟨_, rfl⟩
            have HW2 := Lib.hid hwt
            have HW1 : Hid ((if validS 0 then (((((advL L nn).1).ed 0).wait.size : Nat) : Int) else 0) = wt) := Lib.hid (by rw [← hwt]; simp only [Ln.ed, if_true, HDR2.out.2.2.2.2.1])
            obtain ⟨wy, hwy⟩ : ∃ x : Int, (if validS 0 then ((wayN (((advL M nn).1).ed 0).fl : Nat) : Int) else 0) = x := ⟨_, rfl⟩
            have HY2 := Lib.hid hwy
            have HY1 : Hid ((if validS 0 then ((wayN (((advL L nn).1).ed 0).fl : Nat) : Int) else 0) = wy) := Lib.hid (by rw [← hwy]; simp only [Ln.ed, if_true, HDR2.out.2.2.2.2.2.1])
            have HVV : Hid (LnV ((advL L nn).1) ∧ LnV ((advL M nn).1) ∧ totL ((advL L nn).1) ≤ 200 * (k + 1) ∧ totL ((advL M nn).1) ≤ 200 * (k + 1)) := Lib.hid (by have h1 := HT.out; have h3 := adv_v (n := nn) HV.out.1; have h4 := adv_v (n := nn) HV.out.2; exact ⟨h3.1, h4.1, by omega, by omega⟩)
            clear hu hwt hwy
            refine (p_up HM1.out.own).mono ?_
            rintro e w' ⟨he, hw⟩
            subst hw
            rw [HU1.out] at he
            subst he
            go_wp2_with fail
            refine (p_up HM2.out.own).mono ?_
            rintro e w' ⟨he, hw⟩
            subst hw
            rw [HU2.out] at he
            subst he
            go_wp2_with fail
            refine (p_wait 0 HM1.out.own).mono ?_
            rintro e w' ⟨he, hw⟩
            subst hw
            rw [HW1.out] at he
            subst he
            go_wp2_with fail
            refine (p_wait 0 HM2.out.own).mono ?_
            rintro e w' ⟨he, hw⟩
            subst hw
            rw [HW2.out] at he
            subst he
            go_wp2_with fail
            refine (p_way 0 HM1.out.own HVV.out.1).mono ?_
            rintro e v1 ⟨he, hbv⟩
            rw [HY1.out] at he
            subst he
            have HE1 := Lib.hid (HM1.out.below hbv)
            have HE2 := Lib.hid (HM2.out.below hbv)
            have HBE := Lib.hid (HMB.out.trans' hbv)
            clear hbv
            go_wp2_with fail
            refine (p_way 0 HE2.out.own HVV.out.2.1).mono ?_
            rintro e v2 ⟨he, hbv⟩
            rw [HY2.out] at he
            subst he
            have HF1 := Lib.hid (HE1.out.below hbv)
            have HF2 := Lib.hid (HE2.out.below hbv)
            have HBF := Lib.hid (HBE.out.trans' hbv)
            clear hbv
            go_wp2_with fail
            go_roundw
            case rel => exact ⟨k + 1, by omega, by omega, by go_num, Lib.hid ⟨_, _, _, _, HF1.out, HF2.out, HMD.out, HMG.out, HMH.out, HDR2.out, HVV.out.1, HVV.out.2.1, HVV.out.2.2.1, HVV.out.2.2.2, HBF.out⟩⟩
            case measure => simp [intOf]; omega
          · have hk8 : (kd : Int) % 7 = 6 := by omega
            clear hj
            go_wp2_with (first
              | ((with_reducible refine at_dst 65 ?_); refine wpList_load_cells rfl 27 _ rfl go (off + k * 4) (oplc l[k]) rfl _ Try.underlying27 rfl info27 (fun j u hu => HC.out j u hu) ?_)
              | (go_at_call 36; ((refine (bound_any l[k] _ HKD.out).mono ?_); (rintro e z1 ⟨he, hz⟩; rw [HOB.out] at he; subst he; have HZ := Lib.hid hz; clear hz)))
              | ((with_reducible refine at_dst 10 ?_); (refine wpList_var 27 [.int .u8 kd, .int .i64 sd, .string tx, .int .i64 nn] _ Try.underlying27 z27 info27z rfl (by simp [Value.oneCell']) (by simp [Act.put]) rfl ?_; obtain ⟨zz, hzz⟩ : ∃ x, x = z1.alloc (.cells #[.int .u8 kd, .int .i64 sd, .string tx, .int .i64 nn] 27) := ⟨_, rfl⟩; have hbz : Below wr.heap.size wr zz := (by rw [hzz]; exact HZ.out.trans' (bnew _ _)); have hq : Blk zz z1.heap.size 27 #[.int .u8 kd, .int .i64 sd, .string tx, .int .i64 nn] := (by rw [hzz]; exact Blk.new _ _ _); have HQ := Lib.hid hq; have HOZ1 := Lib.hid (HO1.out.below hbz); have HOZ2 := Lib.hid (HO2.out.below hbz); have HBZ := Lib.hid (HBW.out.trans' hbz); have HNG := Lib.hid (show ¬ G z1.heap.size from fun h => (by have := HO1.out.lt _ h; have := HZ.out.size; omega)); have HNH := Lib.hid (show ¬ H z1.heap.size from fun h => (by have := HO2.out.lt _ h; have := HZ.out.size; omega)); have hc0 : zz.cell? ⟨z1.heap.size, 0, none⟩ = some (.int .u8 kd) := hq.cell 0; have hc1 : zz.cell? ⟨z1.heap.size, 1, none⟩ = some (.int .i64 sd) := hq.cell 1; have hc2 : zz.cell? ⟨z1.heap.size, 2, none⟩ = some (.string tx) := hq.cell 2; have hc3 : zz.cell? ⟨z1.heap.size, 3, none⟩ = some (.int .i64 nn) := hq.cell 3; rw [← hzz]; clear hzz hbz hq)))
            obtain ⟨e0, hre⟩ : ∃ e, (dropL M).2 = e := ⟨_, rfl⟩
            have HR2 := Lib.hid hre
            have HR1 : Hid ((dropL L).2 = e0) := Lib.hid ((drop_DirR HDR.out).2.trans hre)
            clear hre
            refine (p_drop HOZ1.out.own).mono ?_
            rintro e z2 ⟨he, hp, hk2⟩
            rw [HR1.out] at he; subst he
            have HX1 := Lib.hid (HOZ1.out.step hp hk2 (drop_cfg _))
            have HX2 := Lib.hid (HOZ2.out.keep hk2 HD.out)
            have HXQ := Lib.hid (hk2.blk HQ.out HNG.out)
            have HXB := Lib.hid (hk2.base HBZ.out HBZ.out.size HGG.out.1)
            have HXD := Lib.hid (grow_apart (w' := z2) HD.out HOZ2.out.lt)
            have HXG := Lib.hid (grow_ge (w' := z2) HGG.out.1 HBZ.out.size)
            have HXNH := Lib.hid HNH.out
            clear hp hk2 hc0 hc1 hc2 hc3
            have hc1 : z2.cell? ⟨z1.heap.size, 1, none⟩ = some (.int .i64 sd) := HXQ.out.cell 1
            have hc2 : z2.cell? ⟨z1.heap.size, 2, none⟩ = some (.string tx) := HXQ.out.cell 2
            have hc3 : z2.cell? ⟨z1.heap.size, 3, none⟩ = some (.int .i64 nn) := HXQ.out.cell 3
            go_wp2_with fail
            refine (p_drop HX2.out.own).mono ?_
            rintro e z3 ⟨he, hp, hk2⟩
            rw [HR2.out] at he; subst he
            have HM2 := Lib.hid (HX2.out.step hp hk2 (drop_cfg _))
            have HM1 := Lib.hid (HX1.out.keep hk2 (fun k hg hh => HXD.out k hh hg))
            have HMB := Lib.hid (hk2.base HXB.out HXB.out.size HGG.out.2)
            have HMD := Lib.hid (grow_apart' (w' := z3) (w := z2) (G := H) (fun k hh hg => HXD.out k hh hg) HX1.out.lt)
            have HMG := Lib.hid (grow_ge (w' := z3) HGG.out.2 HXB.out.size)
            clear hp hk2
            go_wp2_with fail
            have HDR2 : Hid (DirR (dropL L).1 (dropL M).1) := Lib.hid (by exact (drop_DirR HDR.out).1)
            obtain ⟨u, hu⟩ : ∃ u, ((dropL M).1).up = u := ⟨_, rfl⟩
            have HU1 : Hid (((dropL L).1).up = u) := Lib.hid (HDR2.out.2.2.1.trans hu)
            have HU2 := Lib.hid hu
            obtain ⟨wt, hwt⟩ : ∃ x : Int, (if validS 0 then (((((dropL M).1).ed 0).wait.size : Nat) : Int) else 0) = x := ⟨_, rfl⟩
            have HW2 := Lib.hid hwt
            have HW1 : Hid ((if validS 0 then (((((dropL L).1).ed 0).wait.size : Nat) : Int) else 0) = wt) := Lib.hid (by rw [← hwt]; simp only [Ln.ed, if_true, HDR2.out.2.2.2.2.1])
            obtain ⟨wy, hwy⟩ : ∃ x : Int, (if validS 0 then ((wayN (((dropL M).1).ed 0).fl : Nat) : Int) else 0) = x := ⟨_, rfl⟩
            have HY2 := Lib.hid hwy
            have HY1 : Hid ((if validS 0 then ((wayN (((dropL L).1).ed 0).fl : Nat) : Int) else 0) = wy) := Lib.hid (by rw [← hwy]; simp only [Ln.ed, if_true, HDR2.out.2.2.2.2.2.1])
            have HVV : Hid (LnV ((dropL L).1) ∧ LnV ((dropL M).1) ∧ totL ((dropL L).1) ≤ 200 * (k + 1) ∧ totL ((dropL M).1) ≤ 200 * (k + 1)) := Lib.hid (by have h1 := HT.out; have h3 := drop_v HV.out.1; have h4 := drop_v HV.out.2; exact ⟨h3.1, h4.1, by omega, by omega⟩)
            clear hu hwt hwy
            refine (p_up HM1.out.own).mono ?_
            rintro e w' ⟨he, hw⟩
            subst hw
            rw [HU1.out] at he
            subst he
            go_wp2_with fail
            refine (p_up HM2.out.own).mono ?_
            rintro e w' ⟨he, hw⟩
            subst hw
            rw [HU2.out] at he
            subst he
            go_wp2_with fail
            refine (p_wait 0 HM1.out.own).mono ?_
            rintro e w' ⟨he, hw⟩
            subst hw
            rw [HW1.out] at he
            subst he
            go_wp2_with fail
            refine (p_wait 0 HM2.out.own).mono ?_
            rintro e w' ⟨he, hw⟩
            subst hw
            rw [HW2.out] at he
            subst he
            go_wp2_with fail
            refine (p_way 0 HM1.out.own HVV.out.1).mono ?_
            rintro e v1 ⟨he, hbv⟩
            rw [HY1.out] at he
            subst he
            have HE1 := Lib.hid (HM1.out.below hbv)
            have HE2 := Lib.hid (HM2.out.below hbv)
            have HBE := Lib.hid (HMB.out.trans' hbv)
            clear hbv
            go_wp2_with fail
            refine (p_way 0 HE2.out.own HVV.out.2.1).mono ?_
            rintro e v2 ⟨he, hbv⟩
            rw [HY2.out] at he
            subst he
            have HF1 := Lib.hid (HE1.out.below hbv)
            have HF2 := Lib.hid (HE2.out.below hbv)
            have HBF := Lib.hid (HBE.out.trans' hbv)
            clear hbv
            go_wp2_with fail
            go_roundw
            case rel => exact ⟨k + 1, by omega, by omega, by go_num, Lib.hid ⟨_, _, _, _, HF1.out, HF2.out, HMD.out, HXG.out, HMG.out, HDR2.out, HVV.out.1, HVV.out.2.1, HVV.out.2.2.1, HVV.out.2.2.2, HBF.out⟩⟩
            case measure => simp [intOf]; omega
        · go_wp2
          go_ret
          exact ⟨rfl, HBW.out⟩
      · go_wp2
        go_ret
        exact ⟨rfl, HBW.out⟩
  · have hkb : (K == 0) = false := by simpa using h0
    have hkb2 : (K != 0) = true := by simpa using h0
    go_enter Try.func12, Try.ntmps12
    go_wp2_with ((with_reducible refine at_dst 16 ?_); (refine wpList_load_cells rfl 24 _ rfl w.heap.size 0 (cfgc c A cap) rfl _ Try.underlying24 rfl info24' (fun j u hu => ?_) ?_; (rw [Nat.zero_add, HP0.out.cell, List.getElem?_toArray]; exact hu)))
    refine (cut_at c g cap A _ (HR.out.below HB0.out) HCL.out.1 HCL.out.2).mono ?_
    rintro e y1 ⟨A1, cap1, g1, he, h1, h2, h4, h3⟩
    subst he
    have HR1 := Lib.hid h1
    have HB1 := Lib.hid (HB0.out.trans' h3)
    have HP1 := Lib.hid (HP0.out.below h3)
    have HBS1 := Lib.hid h3
    clear h1 h2 h3 h4
    go_wp2_with fail
    refine (config_any (cutC c) g1 cap1 A1 _ HR1.out HCM.out).mono ?_
    rintro e y2 ⟨A2, cap2, g2, he, h1, h2, h4, h3⟩
    rw [cut_idem] at he h1 h2 h4
    subst he
    have HR2 := Lib.hid h1
    have HB2 := Lib.hid (HB1.out.trans' h3)
    have HP2 := Lib.hid (HP1.out.below h3)
    have HBS2 := Lib.hid (HBS1.out.trans' h3)
    clear h1 h2 h3 h4
    go_wp2_with fail
    refine (new_bad (cutC c) g2 cap2 A2 _ K HR2.out HCM.out HK.out h0).mono ?_
    rintro e y3 ⟨he, hb⟩
    subst he
    have HB3 := Lib.hid (HB2.out.trans' hb)
    have HP3 := Lib.hid (HP2.out.below hb)
    clear hb
    go_wp2_with ((with_reducible refine at_dst 23 ?_); (refine wpList_load_cells rfl 24 _ rfl w.heap.size 0 (cfgc c A cap) rfl _ Try.underlying24 rfl info24' (fun j u hu => ?_) ?_; (rw [Nat.zero_add, HP3.out.cell, List.getElem?_toArray]; exact hu)))
    refine (cut_at c g cap A _ (HR.out.below HB3.out) HCL.out.1 HCL.out.2).mono ?_
    rintro e y4 ⟨A4, cap4, g4, he, h1, h2, h4, h3⟩
    subst he
    have HR4 := Lib.hid h1
    have HB4 := Lib.hid (HB3.out.trans' h3)
    have HP4 := Lib.hid (HP3.out.below h3)
    have HBS4 := Lib.hid h3
    clear h1 h2 h3 h4
    go_wp2_with fail
    refine (config_any (cutC c) g4 cap4 A4 _ HR4.out HCM.out).mono ?_
    rintro e y5 ⟨A5, cap5, g5, he, h1, h2, h4, h3⟩
    rw [cut_idem] at he h1 h2 h4
    subst he
    have HR5 := Lib.hid h1
    have HB5 := Lib.hid (HB4.out.trans' h3)
    have HP5 := Lib.hid (HP4.out.below h3)
    have HBS5 := Lib.hid (HBS4.out.trans' h3)
    clear h1 h2 h3 h4
    go_wp2_with fail
    refine (new_bad (cutC c) g5 cap5 A5 _ K HR5.out HCM.out HK.out h0).mono ?_
    rintro e y6 ⟨he, hb⟩
    subst he
    have HB6 := Lib.hid (HB5.out.trans' hb)
    have HP6 := Lib.hid (HP5.out.below hb)
    clear hb
    go_wp2_with fail
    refine (known_any _).mono ?_
    rintro e y7 ⟨he, hb⟩
    subst he
    have HB7 := Lib.hid (HB6.out.trans' hb)
    have HBK7 := Lib.hid hb
    clear hb
    go_wp2_with fail
    refine (known_any _).mono ?_
    rintro e y8 ⟨he, hb⟩
    subst he
    have HB8 := Lib.hid (HB7.out.trans' hb)
    have HBK8 := Lib.hid hb
    clear hb
    go_wp2_with fail
    go_ret
    exact ⟨rfl, HB8.out⟩
end Go.Proofs.Ytnddahajfcmkiaa
