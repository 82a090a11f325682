/- WindowOneByOne: the walk. -/
import Derived.Test.YtbcejdmgdgghfaaPc
namespace Go.Proofs.Ytbcejdmgdgghfaa
set_option linter.unusedSimpArgs false
set_option linter.unusedVariables false
set_option linter.unnecessarySimpa false
open Go.RowKit

theorem made_ints (n : Nat) : madeCells #[.int .i64 0] n = (ints ((List.replicate n 0).map Int.ofNat)).toArray := by
  apply Array.ext'
  simp only [madeCells, ints, List.map_replicate]
  rw [Array.toList_map, Array.toList_range, List.eq_replicate_iff]
  constructor
  · simp
  · intro b hb
    obtain ⟨a, _, rfl⟩ := List.mem_map.1 hb
    simp [Nat.mod_one]
theorem sim_start (l : List Of) (h : l.length ≤ 60) : Sim l (List.replicate l.length 0) 0 0 :=
  ⟨by simp, by omega, h, fun i hi => by simp [List.getD_eq_getElem?_getD, List.getElem?_replicate]; split <;> simp, fun i hi => by omega, fun i hi => by simp [List.getD_eq_getElem?_getD, List.getElem?_replicate]; split <;> simp⟩
theorem settled_len {l : List Ofr} : (settled l).length = nset l := by
  have := nset_le l
  simp [settled]; omega
theorem wpList_runW {P : Program} {ops : Array Oper} {Q : Exit → Act → World → Prop} {rest : List Oper} {a : Act} {w : World} {o : Oper} (hw : Region.wanted o (yielded ops a.tmps) = true) (v : Value) (h : (execOp a.eval o).run P w = .ok (.value v) w)
    (k : wpList P ops Q rest (a.put o.dst v) w) : wpList P ops Q (o :: rest) a w :=
  wpList_wanted hw fun K hK => by unfold Oper.wp; rw [h]; exact hK _ _ k
theorem size40 : (Try.prog.info? 40).map (·.size) = some 2 := by kernel_rfl

set_option maxRecDepth 20000 in
set_option maxHeartbeats 2000000 in
theorem one_long (n : Int) (l : List Of) (np : Nat) (c cp : Nat) (A Ap : Option Addr) (w : World) (hl : l.length ≤ maxLen) (hnp : np ≤ maxLen) (h60 : 60 < l.length ∨ 400 < np) :
    Calls Try.prog 3 #[.int .i64 n, .slice A l.length c, .slice Ap np cp] w fun e w' => e = .returned (.bool true) ∧ Below w.heap.size w w' := by
  by_cases h1 : 60 < l.length
  · clear h60
    go_enter Try.func3, Try.ntmps3
    go_wp2_with (first
      | (go_at_call 11; (with_reducible refine (known_any w).mono ?_); rintro e w1 ⟨rfl, hb1⟩; have HB1 := Lib.hid hb1; clear hb1)
      | (go_at_call 11; (with_reducible refine (known_any w1).mono ?_); rintro e w2 ⟨rfl, hb2⟩; have HB2 := Lib.hid (HB1.out.trans' hb2); clear hb2))
    go_ret
    exact ⟨rfl, HB2.out⟩
  · have h2 : 400 < np := by omega
    have h3 : l.length ≤ 60 := by omega
    clear h60 h1
    go_enter Try.func3, Try.ntmps3
    go_wp2_with (first
      | (go_at_call 11; (with_reducible refine (known_any w).mono ?_); rintro e w1 ⟨rfl, hb1⟩; have HB1 := Lib.hid hb1; clear hb1)
      | (go_at_call 11; (with_reducible refine (known_any w1).mono ?_); rintro e w2 ⟨rfl, hb2⟩; have HB2 := Lib.hid (HB1.out.trans' hb2); clear hb2))
    go_ret
    exact ⟨rfl, HB2.out⟩

theorem rem2 (k : Nat) : ∀ j : Nat, k % 2 = j → (k : Int).tmod 2 = j := by
  intro j hj
  subst hj
  rw [Int.tmod_eq_emod_of_nonneg (by omega)]
  omega
theorem quo_idx (p len r : Nat) (h : r = p / 4 % len) : ((p : Int).tdiv 4).tmod (len : Int) = (r : Int) := by
  have h1 : (p : Int).tdiv 4 = ((p / 4 : Nat) : Int) := by rw [Int.tdiv_eq_ediv_of_nonneg (by omega)]; omega
  rw [h1, Int.tmod_eq_emod_of_nonneg (by omega), h]
  first | rfl | exact (Int.natCast_emod _ _).symm
theorem quo_idx0 (len r : Nat) (h : r = 0) : (0 : Int).tmod (len : Int) = (r : Int) := by subst h; simp
theorem gotL_succ (l : List Of) (i : Nat) : (gotL l i).flatMap resc ++ resc (resN l i) = (gotL l (i + 1)).flatMap resc := by
  simp [gotL, List.range_succ]
theorem byte0 {i : Nat} (hi : i < 256) : (idc (idN i)).toArray[0]? = some (.int .u8 i) := by
  rw [List.getElem?_toArray]
  show (idc (idOf (UInt8.ofNat i)))[0]? = _
  rw [idc_idOf i hi]; rfl
theorem size40' (o : Of) : (Try.prog.info? 40).map (·.size) = some (ofc o).length := size40
theorem rd_int' {w : World} {g : Nat} {A : Option Addr} {l : List Int} (h : Rd w g 1 A l.length (ints l)) {k : Nat} (hk : k < l.length) {x : Int} (hx : x = l.getD k 0) : ∃ off, A = some ⟨g, off, none⟩ ∧ g < w.heap.size ∧ w.cell? ⟨g, off + k, none⟩ = some (.int .i64 x) := by
  have hg := (h.2 (by omega)).1
  obtain ⟨off, hA, hc⟩ := rd_int h hk
  refine ⟨off, hA, hg, ?_⟩
  rw [hc, hx, List.getD_eq_getElem?_getD, List.getElem?_eq_getElem hk]; rfl
set_option maxRecDepth 20000 in
set_option maxHeartbeats 60000000 in
theorem one_walk (n : Int) (l : List Of) (picks : List UInt8) (gl gp c cp : Nat) (A Ap : Option Addr) (w : World) (hrl : Rd w gl 2 A l.length (l.flatMap ofc)) (hrp : Rd w gp 1 Ap picks.length (picks.flatMap fun x => [Value.int .u8 x.toNat])) (h60 : l.length ≤ 60) (h400 : picks.length ≤ 400) :
    Calls Try.prog 3 #[.int .i64 n, .slice A l.length c, .slice Ap picks.length cp] w fun e w' => e = .returned (.bool true) ∧ Below w.heap.size w w' := by
  have HRL := Lib.hid hrl
  have HRP := Lib.hid hrp
  obtain ⟨s, hs⟩ : ∃ s, s = szOf n := ⟨_, rfl⟩
  obtain ⟨e1, e2, e3, e4, e5⟩ : SzF n s := hs ▸ szF n
  have hsv : validB s = true := hs ▸ szOf_valid n
  have HV := Lib.hid hsv
  obtain ⟨i0, hi0, hz0, hz1, hz2⟩ := info_parts info3
  have HI : Hid (i0.bytes = 8) := Lib.hid hz2
  clear hrl hrp hs hsv hz2
  go_enter Try.func3, Try.ntmps3
  go_wp2_with (first
    | (go_at_call 11; (with_reducible refine (known_any w).mono ?_); rintro e w1 ⟨rfl, hb1⟩; have HB1 := Lib.hid hb1; clear hb1)
    | (go_at_call 12; (with_reducible refine (new_ok s w1 HV.out).mono ?_); rintro e w2 ⟨rfl, hw2, he2⟩; have HW2 := Lib.hid (hw2.nil_at (g' := w1.heap.size + 1)); have hb2 : Below w1.heap.size w1 w2 := (by rw [he2]; exact bnew w1 _); have HZ2 : Hid (w2.heap.size = w1.heap.size + 1) := Lib.hid (by rw [he2]; simp); have HB2 := Lib.hid (HB1.out.trans' hb2); have HBW := Lib.hid HB1.out.size; clear hw2 he2 hb2 e1 e2 e3 e4 e5)
    | ((with_reducible refine at_dst 48 ?_); refine wpList_make_row w2 rfl (.tmp 47) (.tmp 47) 31 rfl 3 i0 (.int .i64 0) Try.underlying31 hi0 hz0 hz1 rfl .i64 .i64 l.length rfl rfl (by rw [HI.out]; omega) (by omega) ?_; obtain ⟨w3, hw3⟩ : ∃ w3, w3 = w2.alloc (.cells (madeCells #[Value.int .i64 0] l.length) 3) := ⟨_, rfl⟩; rw [← hw3]; have HW3 := Lib.hid hw3; clear hw3))
  have HS0 : Hid (ROne w (w2.heap.size + 1) w1.heap.size w2.heap.size s l 0 0 0 (List.replicate l.length 0) (.slice none 0 0) (w1.heap.size + 1) w3) := Lib.hid (by
    have hz := HZ2.out
    have hw3 := HW3.out
    rw [made_ints] at hw3
    have hsz : w3.heap.size = w2.heap.size + 1 := by rw [hw3]; simp
    have hb3 : Below w2.heap.size w2 w3 := by rw [hw3]; exact bnew w2 _
    refine ⟨HW2.out.below hb3, by omega, fun h => by omega, ⟨by simp [gotL], .inl ⟨rfl, rfl⟩⟩, ?_, sim_start l h60, .inl (by have := meas_start l h60; simpa using this), HB2.out.trans' hb3, by omega, by omega, by omega, HBW.out⟩
    rw [hw3]; exact Blk.new w2 3 _)
  clear HI hi0 hz0 hz1 HW3
  have HS1 : Hid (1 ≤ s) := Lib.hid (by have h := HV.out; simp [validB] at h; omega)
  have HZ10 : Hid (badN 10 = false) := Lib.hid (by decide)
  go_loopw [9, 12, 13] (fun gv nv sv wr => ∃ d m nx st said g' Ag cg, st ≤ 400 ∧ gv = .slice Ag d cg ∧ nv = .int .i64 (nx : Nat) ∧ sv = .int .i64 (st : Nat) ∧ d + m = nx ∧ Hid (ROne w (w2.heap.size + 1) w1.heap.size w2.heap.size s l d m st said (.slice Ag d cg) g' wr)) (fun _ _ sv _ => 400 - (intOf sv).toNat)
  case atStart => exact ⟨0, 0, 0, 0, _, _, none, 0, by omega, rfl, rfl, rfl, rfl, HS0⟩
  case round =>
    obtain ⟨d, m, nx, st, said, g', Ag, cg, hst, rfl, rfl, rfl, hnx, HR⟩ := hrel
    have HNX := Lib.hid hnx
    have hnl : nx ≤ l.length := by have := HR.out.sim.nl; omega
    clear hnx
    by_cases hlt : st < 400
    · by_cases hp : st < picks.length
      · obtain ⟨hgp, offp, rfl, hcp⟩ := Rd.elem (f := fun x : UInt8 => [Value.int .u8 x.toNat]) (size := 1) (fun _ => rfl) (HRP.out.below HR.out.bel) hp rfl
        have hc0 := hcp 0 _ rfl
        have hp256 := picks[st].toNat_lt
        obtain ⟨p, hpk⟩ : ∃ p, p = picks[st].toNat := ⟨_, rfl⟩
        rw [← hpk] at hc0 hp256
        simp only [Nat.mul_one, Nat.add_zero] at hc0
        clear hcp hpk
        by_cases hA : p % 3 = 0
        · have hm3 := rem3 p 0 hA
          clear hA
          obtain ⟨q, hqm, hqn, hqg, hqd, hqs⟩ := sim_settled HR.out.sim
          obtain ⟨d2, hd2⟩ : ∃ d2, d + q = d2 := ⟨_, rfl⟩
          obtain ⟨m2, hm2⟩ : ∃ m2, m - q = m2 := ⟨_, rfl⟩
          have HQM := Lib.hid hqm
          have HQG := Lib.hid hqg
          have HQD := Lib.hid hqd
          have HQS := Lib.hid hqs
          have HD2 := Lib.hid hd2
          have HM2 := Lib.hid hm2
          have HSL : Hid ((settled (winL l said d m)).length = q) := Lib.hid (by rw [settled_len, hqn])
          have HN2 : Hid (d2 + m2 = nx) := Lib.hid (by have := HNX.out; omega)
          have HSIM : Hid (Sim l said d2 m2) := Lib.hid (by rw [hd2, hm2] at hqs; exact hqs)
          clear hqm hqn hqg hqd hqs hd2 hm2
          have HOKW : Hid (OkL (winL l said d2 m2)) := Lib.hid ok_winL
          by_cases hn : nx < l.length
          · have HNL : Hid (d2 + m2 < l.length) := Lib.hid (by have := HN2.out; omega)
            have HAS : Hid (hasId (winL l said d2 m2) (idN nx) = false) := Lib.hid (by have := sim_has HSIM.out HNL.out; rwa [HN2.out] at this)
            by_cases hE : p % 2 = 0
            · have hm2 := rem2 p 0 hE
              clear hE
              cases hbz : busyB s (winL l said d2 m2) with
              | false =>
                have HBZ := Lib.hid hbz
                clear hbz
                go_wp2_with (first
                  | (go_at_call 13; (with_reducible refine (settled_at w1.heap.size g' s (winL l said d m) wr HR.out.win HR.out.lenW HR.out.gb).mono ?_); rintro e x1 ⟨vs, rfl, hos, hgs, gs, hws, hgbs, hgns⟩; obtain ⟨As, cs, rfl⟩ := own_slice hos; have HOS := Lib.hid hos; have HGS := Lib.hid hgs; have HWS := Lib.hid hws; have HGNS := Lib.hid hgns; have hbs1 := hgs.size; clear hos hgs hws hgns)
                  | ((with_reducible refine at_dst 68 ?_); refine wpList_app43 rfl (.tmp 65) (.tmp 67) rfl (w2.heap.size + 1) wr.heap.size d (settled (winL l said d m)).length (.slice Ag d cg) (.slice As (settled (winL l said d m)).length cs) ((gotL l d).flatMap resc) ((settled (winL l said d m)).flatMap resc) (by rfl) (by rfl) (HR.out.got.kept HGS.out (.inr fun e' => by have h1 := own_bd HR.out.got _ e'; have h2 := HR.out.bs; omega)) HOS.out (fun u hu => by obtain ⟨x, _, hx⟩ := List.mem_flatMap.1 hu; exact oneCell_resc x u hx) (by rw [HSL.out]; have h1 := HR.out.sim.nl; have h2 := HR.out.sim.n60; have h3 := HQM.out; omega) (by have h1 := HR.out.hB; omega) ?_; intro v2 x2 ho2 hg2 hv2; have hsx := HR.out.settle HQM.out HQG.out HQD.out HQS.out HSL.out HGS.out HWS.out hgbs HGNS.out ho2 hg2 hv2; obtain ⟨g2, hs2⟩ := hsx; rw [HD2.out, HM2.out] at hs2; obtain ⟨Ag2, cg2, rfl⟩ := own_slice hs2.got; have HS := Lib.hid hs2; clear ho2 hg2 hv2 hs2 HOS HGS HWS HGNS hbs1 hgbs)
                  | ((with_reducible refine at_dst 88 ?_); refine wpList_runW (by simp [Region.wanted, yielded]) (.agg (idc (idN nx)).toArray) (exec_id nx (by omega) _ rfl) ?_)
                  | (go_at_call 15; (with_reducible refine (offer_ok w1.heap.size g2 s (winL l said d2 m2) (idN nx) 10 x2 HS.out.win HS.out.lenW HS.out.gb HZ10.out HAS.out HBZ.out).mono ?_); rintro e x4 ⟨rfl, hg4, g4, hw4, hgb4, hgn4⟩; rw [← HN2.out] at hw4; have hs4 := HS.out.offered HNL.out HBZ.out hg4 hw4 hgb4 hgn4; have HS4 := Lib.hid hs4; clear hg4 hw4 hgb4 hgn4 hs4)
                )
                go_roundw
                case rel => exact ⟨d2, m2 + 1, nx + 1, st + 1, said, g4, Ag2, cg2, by omega, rfl, by go_num, by go_num, by have := HN2.out; omega, HS4⟩
                case measure => simp [intOf]; omega
              | true =>
                have HBZ := Lib.hid hbz
                have hol : 0 < (outs (winL l said d2 m2)).length := by have h1 : s ≤ ((outs (winL l said d2 m2)).length : Int) := (by simpa [busyB] using hbz); have := HS1.out; omega
                clear hbz
                obtain ⟨r, hr⟩ : ∃ r, r = p / 4 % (outs (winL l said d2 m2)).length := ⟨_, rfl⟩
                have hrl : r < (outs (winL l said d2 m2)).length := by rw [hr]; exact Nat.mod_lt _ hol
                have hmod : p / 4 % (outs (winL l said d2 m2)).length < (outs (winL l said d2 m2)).length := by exact Nat.mod_lt _ hol
                have hmodI : (p : Int) / 4 % ((outs (winL l said d2 m2)).length : Int) < ((outs (winL l said d2 m2)).length : Int) ∧ 0 ≤ (p : Int) / 4 % ((outs (winL l said d2 m2)).length : Int) := ⟨Int.emod_lt_of_pos _ (by omega), Int.emod_nonneg _ (by omega)⟩
                have HRR := Lib.hid hr
                clear hr
                have HRL2 := Lib.hid hrl
                obtain ⟨i, hi1, hi2, hi3, hi4⟩ := sim_out HSIM.out hrl
                have HOI := Lib.hid hi3
                have hil : i < l.length := by have := HN2.out; omega
                have hgd : l.getD i default = l[i] := by simp [hil]
                obtain ⟨hgl, offl, rfl, hcl⟩ := Rd.elem ofc_len HRL.out hil rfl
                rw [← hgd] at hcl
                obtain ⟨o, ho⟩ : ∃ o, o = l.getD i default := ⟨_, rfl⟩
                obtain ⟨k, hk⟩ : ∃ k, k = said.getD i 0 := ⟨_, rfl⟩
                obtain ⟨x, hx⟩ : ∃ x, x = (ansOf o).getD k 0 := ⟨_, rfl⟩
                have hsa := sim_answer HSIM.out hi1 hi2 hi4
                rw [← ho] at hcl
                have HO := Lib.hid ho
                have HKK := Lib.hid hk
                have HX := Lib.hid hx
                have HI4 := Lib.hid hi4
                have HI1 := Lib.hid hi1
                have HI2 := Lib.hid hi2
                rw [← ho, ← hk] at hi4
                rw [← ho, ← hk, ← hx] at hsa
                have HAE := Lib.hid hsa.1
                have HAL := Lib.hid hsa.2.1
                have HGL := Lib.hid hgl
                have HCL := Lib.hid hcl
                have HB0 : Hid ((idc (idN i)).toArray[0]? = some (.int .u8 i)) := Lib.hid (byte0 (by omega))
                have HB1' : Hid ((ints (said.map Int.ofNat)).toArray[i]? = some (.int .i64 k)) := Lib.hid (by rw [List.getElem?_toArray, ints_get said (by have := HSIM.out.len; omega), hk])
                have hk2 : k ≤ 1 := by have := (ansOf_len o).2; omega
                have hneq : ∀ w, (binOp .neq 37 (.agg (idc (idN i)).toArray) (.agg (idc (idN i)).toArray)).run Try.prog w = .ok (.bool false) w := fun w => by rw [run_neq_ids]; simp
                clear hi1 hi2 hi3 ho hk hx hsa hgl hcl hgd
                go_wp2_with (first
                  | (go_at_call 13; (with_reducible refine (settled_at w1.heap.size g' s (winL l said d m) wr HR.out.win HR.out.lenW HR.out.gb).mono ?_); rintro e x1 ⟨vs, rfl, hos, hgs, gs, hws, hgbs, hgns⟩; obtain ⟨As, cs, rfl⟩ := own_slice hos; have HOS := Lib.hid hos; have HGS := Lib.hid hgs; have HWS := Lib.hid hws; have HGNS := Lib.hid hgns; have hbs1 := hgs.size; clear hos hgs hws hgns)
                  | ((with_reducible refine at_dst 68 ?_); refine wpList_app43 rfl (.tmp 65) (.tmp 67) rfl (w2.heap.size + 1) wr.heap.size d (settled (winL l said d m)).length (.slice Ag d cg) (.slice As (settled (winL l said d m)).length cs) ((gotL l d).flatMap resc) ((settled (winL l said d m)).flatMap resc) (by rfl) (by rfl) (HR.out.got.kept HGS.out (.inr fun e' => by have h1 := own_bd HR.out.got _ e'; have h2 := HR.out.bs; omega)) HOS.out (fun u hu => by obtain ⟨x, _, hx⟩ := List.mem_flatMap.1 hu; exact oneCell_resc x u hx) (by rw [HSL.out]; have h1 := HR.out.sim.nl; have h2 := HR.out.sim.n60; have h3 := HQM.out; omega) (by have h1 := HR.out.hB; omega) ?_; intro v2 x2 ho2 hg2 hv2; have hsx := HR.out.settle HQM.out HQG.out HQD.out HQS.out HSL.out HGS.out HWS.out hgbs HGNS.out ho2 hg2 hv2; obtain ⟨g2, hs2⟩ := hsx; rw [HD2.out, HM2.out] at hs2; obtain ⟨Ag2, cg2, rfl⟩ := own_slice hs2.got; have HS := Lib.hid hs2; clear ho2 hg2 hv2 hs2 HOS HGS HWS HGNS hbs1 hgbs)
                  | ((with_reducible refine at_dst 88 ?_); refine wpList_runW (by simp [Region.wanted, yielded]) (.agg (idc (idN nx)).toArray) (exec_id nx (by omega) _ rfl) ?_)
                  | (go_at_call 15; (with_reducible refine (offer_busy w1.heap.size g2 s (winL l said d2 m2) (idN nx) 10 x2 HS.out.win HS.out.lenW HS.out.gb HZ10.out HAS.out HBZ.out).mono ?_); rintro e x3 ⟨rfl, hb3⟩; have HS3 := Lib.hid (HS.out.below hb3); clear hb3)
                  | (go_at_call 14; (with_reducible refine (outstanding_any w1.heap.size g2 s (winL l said d2 m2) x3 HS3.out.win HS3.out.lenW).mono ?_); rintro e y1 ⟨vo, rfl, hoo, hby⟩; obtain ⟨Ao, co, rfl⟩ := own_slice hoo; obtain ⟨go, hro, _, _⟩ := Rd.own hoo; obtain ⟨_, offo, rfl, hco⟩ := Rd.elem idc_len hro HRL2.out rfl; rw [HOI.out] at hco; have HCO := Lib.hid hco; have HY1 := Lib.hid (HS3.out.below hby); clear hoo hby hro hco)
                  | ((with_reducible refine at_dst 106 ?_); refine wpList_load_cells rfl 37 _ rfl go (offo + (p / 4 % (outs (winL l said d2 m2)).length) * 32) (idc (idN i)) rfl _ Try.underlying37 rfl (sz_id _) (fun j u hu => by have h0 := HCO.out j u hu; rw [HRR.out] at h0; exact h0) ?_)
                  | ((with_reducible refine at_dst 16 ?_); refine wpList_al_id rfl rfl ?_; intro y2 hp2 hg2 hz2; have HP2 := Lib.hid hp2; have HG2 := Lib.hid hg2; clear hp2 hg2 hz2)
                  | ((with_reducible refine at_store 37 16 ?_); refine wpList_st_id rfl (.tmp 16) (.tmp 106) rfl y1.heap.size (idN i) HP2.out (by kernel_rfl) (by kernel_rfl) ?_; intro y3 hp3 hg3 hz3; have hb3 : Below y1.heap.size y1 y3 := HG2.out.toBelow.grown hg3 HG2.out.size (fun x hx => by simp at hx; omega); have HP3 := Lib.hid hp3; have HY3 := Lib.hid (HY1.out.below hb3); have hid3 := (hp3.cell 0).trans HB0.out; clear hp3 hg3 hz3 hb3)
                  | ((with_reducible refine at_dst 114 ?_); refine wpList_ld (by simp [Region.wanted, yielded, hil]) (.tmp 16) rfl y1.heap.size (idN i) (by kernel_rfl) HP3.out ?_)
                  | ((with_reducible refine at_dst 117 ?_); refine wpList_runW (by simp [Region.wanted, yielded, hil]) (.agg (idc (idN i)).toArray) (exec_id i (by omega) _ rfl) ?_)
                  | ((with_reducible refine at_dst 125 ?_); refine wpList_load_cells rfl 40 _ rfl gl (offl + i * 2) (ofc o) rfl _ Try.underlying40 rfl (size40' _) (fun j u hu => (HY3.out.bel.cell (p := ⟨gl, _, none⟩) HGL.out).trans (HCL.out j u hu)) ?_)
                  | (go_at_call 16; (with_reducible refine (final_any o y3).mono ?_); rintro e y4 ⟨va, rfl, hoa, hba⟩; obtain ⟨Aa, ca, rfl⟩ := own_slice hoa; obtain ⟨ga, hra, _, _⟩ := Rd.own hoa; obtain ⟨offa, rfl, hga, hca⟩ := rd_int' hra hi4 HX.out; have HGA := Lib.hid hga; have HCA := Lib.hid hca; have HY4 := Lib.hid (HY3.out.below hba); have HP4 := Lib.hid (HP3.out.below hba); clear hoa hra hba hga hca)
                )
                clear hid3 hneq
                refine wp_region_seq (nt := 182) (by kernel_rfl) [0,1,2,3,4,5,6,7,8,9] [10, 11] Rb Rb.refl Rb.trans [] (by kernel_rfl) (by simp) rfl (by kernel_rfl) (by simp) trivial ?_
                (refine' Sq.det (E := _) (b := _) (by rfl) (by rfl) (by rfl) (fun w' hR hf => ?_) ?_ ?_; rotate_left 2; (· (go_simp; first | done | with_reducible rfl)); (· (simp only [Act.put, List.setIfInBounds_toArray, List.set_cons_zero, List.set_cons_succ]; first | done | rfl)))
                (refine' Sq.det (E := _) (b := _) (by rfl) (by rfl) (by rfl) (fun w' hR hf => ?_) ?_ ?_; rotate_left 2; (· (refine exec_load_cells 37 _ y1.heap.size 0 (idc (idN i)) ?_ _ Try.underlying37 rfl (sz_id _) (fun j u hu => ?_); (· kernel_rfl); (rw [Nat.zero_add, (HP4.out.below (below_undrew hR)).cell, List.getElem?_toArray]; exact hu))); (· (simp only [Act.put, List.setIfInBounds_toArray, List.set_cons_zero, List.set_cons_succ]; first | done | rfl)))
                (refine' Sq.det (E := _) (b := _) (by rfl) (by rfl) (by rfl) (fun w' hR hf => ?_) ?_ ?_; rotate_left 2; (· (go_simp; first | done | with_reducible rfl)); (· (simp only [Act.put, List.setIfInBounds_toArray, List.set_cons_zero, List.set_cons_succ]; first | done | rfl)))
                (refine' Sq.det (E := _) (b := _) (by rfl) (by rfl) (by rfl) (fun w' hR hf => ?_) ?_ ?_; rotate_left 2; (· (go_simp; first | done | with_reducible rfl)); (· (simp only [Act.put, List.setIfInBounds_toArray, List.set_cons_zero, List.set_cons_succ]; first | done | rfl)))
                (refine' Sq.det (E := _) (b := _) (by rfl) (by rfl) (by rfl) (fun w' hR hf => ?_) ?_ ?_; rotate_left 2; (· (go_simp; first | done | with_reducible rfl)); (· (simp only [Act.put, List.setIfInBounds_toArray, List.set_cons_zero, List.set_cons_succ]; first | done | rfl)))
                (refine' Sq.det (E := _) (b := _) (by rfl) (by rfl) (by rfl) (fun w' hR hf => ?_) ?_ ?_; rotate_left 2; (· (have hc := ((HP4.out.below (below_undrew hR)).cell 0).trans HB0.out; go_simp; first | done | with_reducible rfl)); (· (simp only [Act.put, List.setIfInBounds_toArray, List.set_cons_zero, List.set_cons_succ]; first | done | rfl)))
                (refine' Sq.det (E := _) (b := _) (by rfl) (by rfl) (by rfl) (fun w' hR hf => ?_) ?_ ?_; rotate_left 2; (· (go_simp; first | done | with_reducible rfl)); (· (simp only [Act.put, List.setIfInBounds_toArray, List.set_cons_zero, List.set_cons_succ]; first | done | rfl)))
                (refine' Sq.det (E := _) (b := _) (by rfl) (by rfl) (by rfl) (fun w' hR hf => ?_) ?_ ?_; rotate_left 2; (· (have hc := ((HY4.out.below (below_undrew hR)).srow.cell i).trans HB1'.out; go_simp; first | done | with_reducible rfl)); (· (simp only [Act.put, List.setIfInBounds_toArray, List.set_cons_zero, List.set_cons_succ]; first | done | rfl)))
                (refine' Sq.det (E := _) (b := _) (by rfl) (by rfl) (by rfl) (fun w' hR hf => ?_) ?_ ?_; rotate_left 2; (· (go_simp; first | done | with_reducible rfl)); (· (simp only [Act.put, List.setIfInBounds_toArray, List.set_cons_zero, List.set_cons_succ]; first | done | rfl)))
                (refine' Sq.det (E := _) (b := _) (by rfl) (by rfl) (by rfl) (fun w' hR hf => ?_) ?_ ?_; rotate_left 2; (· (have hc := ((below_undrew hR).cell (p := ⟨ga, offa + k, none⟩) HGA.out).trans HCA.out; go_simp; first | done | with_reducible rfl)); (· (simp only [Act.put, List.setIfInBounds_toArray, List.set_cons_zero, List.set_cons_succ]; first | done | rfl)))
                refine Sq.tail2 (by rfl) (by rfl) fun y5 hR _ => ?_
                have HY5 := Lib.hid (HY4.out.below (below_undrew hR))
                have HP5 := Lib.hid (HP4.out.below (below_undrew hR))
                clear hR
                go_wp2_with (first
                  | (go_at_call 17; (with_reducible refine (answer_at w1.heap.size g2 s (winL l said d2 m2) (idN i) x y5 HY5.out.win HY5.out.lenW HY5.out.gb HOKW.out).mono ?_); rintro e y6 ⟨he, hg6, g6, hw6, hgb6, hgn6⟩; rw [HAE.out] at he; subst he; rw [HAL.out] at hw6; have hbs := HY5.out.bs; have hid6 := ((HP5.out.grown hg6 (by have h1 := HY1.out.hB; simp; omega)).cell 0).trans HB0.out; have hsr := (HY5.out.srow.grown hg6 (by simp; omega)); have hsc := (hsr.cell i).trans HB1'.out; have hfz := hsr.frozen i; have hfin := HY5.out.answered HI1.out HI2.out HI4.out hg6 (by rw [← HKK.out]; exact hw6) hgb6 hgn6; rw [← HKK.out] at hfin; have HFIN := Lib.hid hfin; clear hbs hg6 hw6 hgb6 hgn6 hsr hfin))
                go_roundw
                case rel => exact ⟨d2, m2, nx, st + 1, said.set i (k + 1), g6, Ag2, cg2, by omega, rfl, rfl, by go_num, HN2.out, HFIN⟩
                case measure => simp [intOf]; omega
            · have hm2 := rem2 p 1 (by omega)
              clear hE
              rcases Nat.eq_zero_or_pos (outs (winL l said d2 m2)).length with hol | hol
              · have hbz : busyB s (winL l said d2 m2) = false := by have := HS1.out; simp [busyB]; omega
                have HBZ := Lib.hid hbz
                clear hbz
                go_wp2_with (first
                  | (go_at_call 13; (with_reducible refine (settled_at w1.heap.size g' s (winL l said d m) wr HR.out.win HR.out.lenW HR.out.gb).mono ?_); rintro e x1 ⟨vs, rfl, hos, hgs, gs, hws, hgbs, hgns⟩; obtain ⟨As, cs, rfl⟩ := own_slice hos; have HOS := Lib.hid hos; have HGS := Lib.hid hgs; have HWS := Lib.hid hws; have HGNS := Lib.hid hgns; have hbs1 := hgs.size; clear hos hgs hws hgns)
                  | ((with_reducible refine at_dst 68 ?_); refine wpList_app43 rfl (.tmp 65) (.tmp 67) rfl (w2.heap.size + 1) wr.heap.size d (settled (winL l said d m)).length (.slice Ag d cg) (.slice As (settled (winL l said d m)).length cs) ((gotL l d).flatMap resc) ((settled (winL l said d m)).flatMap resc) (by rfl) (by rfl) (HR.out.got.kept HGS.out (.inr fun e' => by have h1 := own_bd HR.out.got _ e'; have h2 := HR.out.bs; omega)) HOS.out (fun u hu => by obtain ⟨x, _, hx⟩ := List.mem_flatMap.1 hu; exact oneCell_resc x u hx) (by rw [HSL.out]; have h1 := HR.out.sim.nl; have h2 := HR.out.sim.n60; have h3 := HQM.out; omega) (by have h1 := HR.out.hB; omega) ?_; intro v2 x2 ho2 hg2 hv2; have hsx := HR.out.settle HQM.out HQG.out HQD.out HQS.out HSL.out HGS.out HWS.out hgbs HGNS.out ho2 hg2 hv2; obtain ⟨g2, hs2⟩ := hsx; rw [HD2.out, HM2.out] at hs2; obtain ⟨Ag2, cg2, rfl⟩ := own_slice hs2.got; have HS := Lib.hid hs2; clear ho2 hg2 hv2 hs2 HOS HGS HWS HGNS hbs1 hgbs)
                  | (go_at_call 14; (with_reducible refine (outstanding_any w1.heap.size g2 s (winL l said d2 m2) x2 HS.out.win HS.out.lenW).mono ?_); rintro e x3 ⟨vo3, rfl, ho3, hb3⟩; obtain ⟨A3, c3, rfl⟩ := own_slice ho3; have HS3 := Lib.hid (HS.out.below hb3); clear ho3 hb3)
                  | ((with_reducible refine at_dst 88 ?_); refine wpList_runW (by simp [Region.wanted, yielded]) (.agg (idc (idN nx)).toArray) (exec_id nx (by omega) _ rfl) ?_)
                  | (go_at_call 15; (with_reducible refine (offer_ok w1.heap.size g2 s (winL l said d2 m2) (idN nx) 10 x3 HS3.out.win HS3.out.lenW HS3.out.gb HZ10.out HAS.out HBZ.out).mono ?_); rintro e x4 ⟨rfl, hg4, g4, hw4, hgb4, hgn4⟩; rw [← HN2.out] at hw4; have hs4 := HS3.out.offered HNL.out HBZ.out hg4 hw4 hgb4 hgn4; have HS4 := Lib.hid hs4; clear hg4 hw4 hgb4 hgn4 hs4)
                )
                go_roundw
                case rel => exact ⟨d2, m2 + 1, nx + 1, st + 1, said, g4, Ag2, cg2, by omega, rfl, by go_num, by go_num, by have := HN2.out; omega, HS4⟩
                case measure => simp [intOf]; omega
              · have hob : ¬ outs (winL l said d2 m2) = [] := fun h => by rw [h] at hol; simp at hol
                obtain ⟨r, hr⟩ : ∃ r, r = p / 4 % (outs (winL l said d2 m2)).length := ⟨_, rfl⟩
                have hrl : r < (outs (winL l said d2 m2)).length := by rw [hr]; exact Nat.mod_lt _ hol
                have hmod : p / 4 % (outs (winL l said d2 m2)).length < (outs (winL l said d2 m2)).length := by exact Nat.mod_lt _ hol
                have hmodI : (p : Int) / 4 % ((outs (winL l said d2 m2)).length : Int) < ((outs (winL l said d2 m2)).length : Int) ∧ 0 ≤ (p : Int) / 4 % ((outs (winL l said d2 m2)).length : Int) := ⟨Int.emod_lt_of_pos _ (by omega), Int.emod_nonneg _ (by omega)⟩
                have HRR := Lib.hid hr
                clear hr
                have HRL2 := Lib.hid hrl
                obtain ⟨i, hi1, hi2, hi3, hi4⟩ := sim_out HSIM.out hrl
                have HOI := Lib.hid hi3
                have hil : i < l.length := by have := HN2.out; omega
                have hgd : l.getD i default = l[i] := by simp [hil]
                obtain ⟨hgl, offl, rfl, hcl⟩ := Rd.elem ofc_len HRL.out hil rfl
                rw [← hgd] at hcl
                obtain ⟨o, ho⟩ : ∃ o, o = l.getD i default := ⟨_, rfl⟩
                obtain ⟨k, hk⟩ : ∃ k, k = said.getD i 0 := ⟨_, rfl⟩
                obtain ⟨x, hx⟩ : ∃ x, x = (ansOf o).getD k 0 := ⟨_, rfl⟩
                have hsa := sim_answer HSIM.out hi1 hi2 hi4
                rw [← ho] at hcl
                have HO := Lib.hid ho
                have HKK := Lib.hid hk
                have HX := Lib.hid hx
                have HI4 := Lib.hid hi4
                have HI1 := Lib.hid hi1
                have HI2 := Lib.hid hi2
                rw [← ho, ← hk] at hi4
                rw [← ho, ← hk, ← hx] at hsa
                have HAE := Lib.hid hsa.1
                have HAL := Lib.hid hsa.2.1
                have HGL := Lib.hid hgl
                have HCL := Lib.hid hcl
                have HB0 : Hid ((idc (idN i)).toArray[0]? = some (.int .u8 i)) := Lib.hid (byte0 (by omega))
                have HB1' : Hid ((ints (said.map Int.ofNat)).toArray[i]? = some (.int .i64 k)) := Lib.hid (by rw [List.getElem?_toArray, ints_get said (by have := HSIM.out.len; omega), hk])
                have hk2 : k ≤ 1 := by have := (ansOf_len o).2; omega
                have hneq : ∀ w, (binOp .neq 37 (.agg (idc (idN i)).toArray) (.agg (idc (idN i)).toArray)).run Try.prog w = .ok (.bool false) w := fun w => by rw [run_neq_ids]; simp
                clear hi1 hi2 hi3 ho hk hx hsa hgl hcl hgd
                go_wp2_with (first
                  | (go_at_call 13; (with_reducible refine (settled_at w1.heap.size g' s (winL l said d m) wr HR.out.win HR.out.lenW HR.out.gb).mono ?_); rintro e x1 ⟨vs, rfl, hos, hgs, gs, hws, hgbs, hgns⟩; obtain ⟨As, cs, rfl⟩ := own_slice hos; have HOS := Lib.hid hos; have HGS := Lib.hid hgs; have HWS := Lib.hid hws; have HGNS := Lib.hid hgns; have hbs1 := hgs.size; clear hos hgs hws hgns)
                  | ((with_reducible refine at_dst 68 ?_); refine wpList_app43 rfl (.tmp 65) (.tmp 67) rfl (w2.heap.size + 1) wr.heap.size d (settled (winL l said d m)).length (.slice Ag d cg) (.slice As (settled (winL l said d m)).length cs) ((gotL l d).flatMap resc) ((settled (winL l said d m)).flatMap resc) (by rfl) (by rfl) (HR.out.got.kept HGS.out (.inr fun e' => by have h1 := own_bd HR.out.got _ e'; have h2 := HR.out.bs; omega)) HOS.out (fun u hu => by obtain ⟨x, _, hx⟩ := List.mem_flatMap.1 hu; exact oneCell_resc x u hx) (by rw [HSL.out]; have h1 := HR.out.sim.nl; have h2 := HR.out.sim.n60; have h3 := HQM.out; omega) (by have h1 := HR.out.hB; omega) ?_; intro v2 x2 ho2 hg2 hv2; have hsx := HR.out.settle HQM.out HQG.out HQD.out HQS.out HSL.out HGS.out HWS.out hgbs HGNS.out ho2 hg2 hv2; obtain ⟨g2, hs2⟩ := hsx; rw [HD2.out, HM2.out] at hs2; obtain ⟨Ag2, cg2, rfl⟩ := own_slice hs2.got; have HS := Lib.hid hs2; clear ho2 hg2 hv2 hs2 HOS HGS HWS HGNS hbs1 hgbs)
                  | (go_at_call 14; (with_reducible refine (outstanding_any w1.heap.size g2 s (winL l said d2 m2) x2 HS.out.win HS.out.lenW).mono ?_); rintro e x3 ⟨vo3, rfl, ho3, hb3⟩; obtain ⟨A3, c3, rfl⟩ := own_slice ho3; have HS3 := Lib.hid (HS.out.below hb3); clear ho3 hb3)
                  | (go_at_call 14; (with_reducible refine (outstanding_any w1.heap.size g2 s (winL l said d2 m2) x3 HS3.out.win HS3.out.lenW).mono ?_); rintro e y1 ⟨vo, rfl, hoo, hby⟩; obtain ⟨Ao, co, rfl⟩ := own_slice hoo; obtain ⟨go, hro, _, _⟩ := Rd.own hoo; obtain ⟨_, offo, rfl, hco⟩ := Rd.elem idc_len hro HRL2.out rfl; rw [HOI.out] at hco; have HCO := Lib.hid hco; have HY1 := Lib.hid (HS3.out.below hby); clear hoo hby hro hco)
                  | ((with_reducible refine at_dst 106 ?_); refine wpList_load_cells rfl 37 _ rfl go (offo + (p / 4 % (outs (winL l said d2 m2)).length) * 32) (idc (idN i)) rfl _ Try.underlying37 rfl (sz_id _) (fun j u hu => by have h0 := HCO.out j u hu; rw [HRR.out] at h0; exact h0) ?_)
                  | ((with_reducible refine at_dst 16 ?_); refine wpList_al_id rfl rfl ?_; intro y2 hp2 hg2 hz2; have HP2 := Lib.hid hp2; have HG2 := Lib.hid hg2; clear hp2 hg2 hz2)
                  | ((with_reducible refine at_store 37 16 ?_); refine wpList_st_id rfl (.tmp 16) (.tmp 106) rfl y1.heap.size (idN i) HP2.out (by kernel_rfl) (by kernel_rfl) ?_; intro y3 hp3 hg3 hz3; have hb3 : Below y1.heap.size y1 y3 := HG2.out.toBelow.grown hg3 HG2.out.size (fun x hx => by simp at hx; omega); have HP3 := Lib.hid hp3; have HY3 := Lib.hid (HY1.out.below hb3); have hid3 := (hp3.cell 0).trans HB0.out; clear hp3 hg3 hz3 hb3)
                  | ((with_reducible refine at_dst 114 ?_); refine wpList_ld (by simp [Region.wanted, yielded, hil]) (.tmp 16) rfl y1.heap.size (idN i) (by kernel_rfl) HP3.out ?_)
                  | ((with_reducible refine at_dst 117 ?_); refine wpList_runW (by simp [Region.wanted, yielded, hil]) (.agg (idc (idN i)).toArray) (exec_id i (by omega) _ rfl) ?_)
                  | ((with_reducible refine at_dst 125 ?_); refine wpList_load_cells rfl 40 _ rfl gl (offl + i * 2) (ofc o) rfl _ Try.underlying40 rfl (size40' _) (fun j u hu => (HY3.out.bel.cell (p := ⟨gl, _, none⟩) HGL.out).trans (HCL.out j u hu)) ?_)
                  | (go_at_call 16; (with_reducible refine (final_any o y3).mono ?_); rintro e y4 ⟨va, rfl, hoa, hba⟩; obtain ⟨Aa, ca, rfl⟩ := own_slice hoa; obtain ⟨ga, hra, _, _⟩ := Rd.own hoa; obtain ⟨offa, rfl, hga, hca⟩ := rd_int' hra hi4 HX.out; have HGA := Lib.hid hga; have HCA := Lib.hid hca; have HY4 := Lib.hid (HY3.out.below hba); have HP4 := Lib.hid (HP3.out.below hba); clear hoa hra hba hga hca)
                )
                clear hid3 hneq
                refine wp_region_seq (nt := 182) (by kernel_rfl) [0,1,2,3,4,5,6,7,8,9] [10, 11] Rb Rb.refl Rb.trans [] (by kernel_rfl) (by simp) rfl (by kernel_rfl) (by simp) trivial ?_
                (refine' Sq.det (E := _) (b := _) (by rfl) (by rfl) (by rfl) (fun w' hR hf => ?_) ?_ ?_; rotate_left 2; (· (go_simp; first | done | with_reducible rfl)); (· (simp only [Act.put, List.setIfInBounds_toArray, List.set_cons_zero, List.set_cons_succ]; first | done | rfl)))
                (refine' Sq.det (E := _) (b := _) (by rfl) (by rfl) (by rfl) (fun w' hR hf => ?_) ?_ ?_; rotate_left 2; (· (refine exec_load_cells 37 _ y1.heap.size 0 (idc (idN i)) ?_ _ Try.underlying37 rfl (sz_id _) (fun j u hu => ?_); (· kernel_rfl); (rw [Nat.zero_add, (HP4.out.below (below_undrew hR)).cell, List.getElem?_toArray]; exact hu))); (· (simp only [Act.put, List.setIfInBounds_toArray, List.set_cons_zero, List.set_cons_succ]; first | done | rfl)))
                (refine' Sq.det (E := _) (b := _) (by rfl) (by rfl) (by rfl) (fun w' hR hf => ?_) ?_ ?_; rotate_left 2; (· (go_simp; first | done | with_reducible rfl)); (· (simp only [Act.put, List.setIfInBounds_toArray, List.set_cons_zero, List.set_cons_succ]; first | done | rfl)))
                (refine' Sq.det (E := _) (b := _) (by rfl) (by rfl) (by rfl) (fun w' hR hf => ?_) ?_ ?_; rotate_left 2; (· (go_simp; first | done | with_reducible rfl)); (· (simp only [Act.put, List.setIfInBounds_toArray, List.set_cons_zero, List.set_cons_succ]; first | done | rfl)))
                (refine' Sq.det (E := _) (b := _) (by rfl) (by rfl) (by rfl) (fun w' hR hf => ?_) ?_ ?_; rotate_left 2; (· (go_simp; first | done | with_reducible rfl)); (· (simp only [Act.put, List.setIfInBounds_toArray, List.set_cons_zero, List.set_cons_succ]; first | done | rfl)))
                (refine' Sq.det (E := _) (b := _) (by rfl) (by rfl) (by rfl) (fun w' hR hf => ?_) ?_ ?_; rotate_left 2; (· (have hc := ((HP4.out.below (below_undrew hR)).cell 0).trans HB0.out; go_simp; first | done | with_reducible rfl)); (· (simp only [Act.put, List.setIfInBounds_toArray, List.set_cons_zero, List.set_cons_succ]; first | done | rfl)))
                (refine' Sq.det (E := _) (b := _) (by rfl) (by rfl) (by rfl) (fun w' hR hf => ?_) ?_ ?_; rotate_left 2; (· (go_simp; first | done | with_reducible rfl)); (· (simp only [Act.put, List.setIfInBounds_toArray, List.set_cons_zero, List.set_cons_succ]; first | done | rfl)))
                (refine' Sq.det (E := _) (b := _) (by rfl) (by rfl) (by rfl) (fun w' hR hf => ?_) ?_ ?_; rotate_left 2; (· (have hc := ((HY4.out.below (below_undrew hR)).srow.cell i).trans HB1'.out; go_simp; first | done | with_reducible rfl)); (· (simp only [Act.put, List.setIfInBounds_toArray, List.set_cons_zero, List.set_cons_succ]; first | done | rfl)))
                (refine' Sq.det (E := _) (b := _) (by rfl) (by rfl) (by rfl) (fun w' hR hf => ?_) ?_ ?_; rotate_left 2; (· (go_simp; first | done | with_reducible rfl)); (· (simp only [Act.put, List.setIfInBounds_toArray, List.set_cons_zero, List.set_cons_succ]; first | done | rfl)))
                (refine' Sq.det (E := _) (b := _) (by rfl) (by rfl) (by rfl) (fun w' hR hf => ?_) ?_ ?_; rotate_left 2; (· (have hc := ((below_undrew hR).cell (p := ⟨ga, offa + k, none⟩) HGA.out).trans HCA.out; go_simp; first | done | with_reducible rfl)); (· (simp only [Act.put, List.setIfInBounds_toArray, List.set_cons_zero, List.set_cons_succ]; first | done | rfl)))
                refine Sq.tail2 (by rfl) (by rfl) fun y5 hR _ => ?_
                have HY5 := Lib.hid (HY4.out.below (below_undrew hR))
                have HP5 := Lib.hid (HP4.out.below (below_undrew hR))
                clear hR
                go_wp2_with (first
                  | (go_at_call 17; (with_reducible refine (answer_at w1.heap.size g2 s (winL l said d2 m2) (idN i) x y5 HY5.out.win HY5.out.lenW HY5.out.gb HOKW.out).mono ?_); rintro e y6 ⟨he, hg6, g6, hw6, hgb6, hgn6⟩; rw [HAE.out] at he; subst he; rw [HAL.out] at hw6; have hbs := HY5.out.bs; have hid6 := ((HP5.out.grown hg6 (by have h1 := HY1.out.hB; simp; omega)).cell 0).trans HB0.out; have hsr := (HY5.out.srow.grown hg6 (by simp; omega)); have hsc := (hsr.cell i).trans HB1'.out; have hfz := hsr.frozen i; have hfin := HY5.out.answered HI1.out HI2.out HI4.out hg6 (by rw [← HKK.out]; exact hw6) hgb6 hgn6; rw [← HKK.out] at hfin; have HFIN := Lib.hid hfin; clear hbs hg6 hw6 hgb6 hgn6 hsr hfin))
                go_roundw
                case rel => exact ⟨d2, m2, nx, st + 1, said.set i (k + 1), g6, Ag2, cg2, by omega, rfl, rfl, by go_num, HN2.out, HFIN⟩
                case measure => simp [intOf]; omega
          · rcases Nat.eq_zero_or_pos (outs (winL l said d2 m2)).length with hol | hol
            · have HOE : Hid (outs (winL l said d2 m2) = []) := Lib.hid (List.eq_nil_of_length_eq_zero hol)
              have HNE : Hid (d2 + m2 = l.length) := Lib.hid (by have := HN2.out; omega)
              go_wp2_with (first
                | (go_at_call 13; (with_reducible refine (settled_at w1.heap.size g' s (winL l said d m) wr HR.out.win HR.out.lenW HR.out.gb).mono ?_); rintro e x1 ⟨vs, rfl, hos, hgs, gs, hws, hgbs, hgns⟩; obtain ⟨As, cs, rfl⟩ := own_slice hos; have HOS := Lib.hid hos; have HGS := Lib.hid hgs; have HWS := Lib.hid hws; have HGNS := Lib.hid hgns; have hbs1 := hgs.size; clear hos hgs hws hgns)
                | ((with_reducible refine at_dst 68 ?_); refine wpList_app43 rfl (.tmp 65) (.tmp 67) rfl (w2.heap.size + 1) wr.heap.size d (settled (winL l said d m)).length (.slice Ag d cg) (.slice As (settled (winL l said d m)).length cs) ((gotL l d).flatMap resc) ((settled (winL l said d m)).flatMap resc) (by rfl) (by rfl) (HR.out.got.kept HGS.out (.inr fun e' => by have h1 := own_bd HR.out.got _ e'; have h2 := HR.out.bs; omega)) HOS.out (fun u hu => by obtain ⟨x, _, hx⟩ := List.mem_flatMap.1 hu; exact oneCell_resc x u hx) (by rw [HSL.out]; have h1 := HR.out.sim.nl; have h2 := HR.out.sim.n60; have h3 := HQM.out; omega) (by have h1 := HR.out.hB; omega) ?_; intro v2 x2 ho2 hg2 hv2; have hsx := HR.out.settle HQM.out HQG.out HQD.out HQS.out HSL.out HGS.out HWS.out hgbs HGNS.out ho2 hg2 hv2; obtain ⟨g2, hs2⟩ := hsx; rw [HD2.out, HM2.out] at hs2; obtain ⟨Ag2, cg2, rfl⟩ := own_slice hs2.got; have HS := Lib.hid hs2; clear ho2 hg2 hv2 hs2 HOS HGS HWS HGNS hbs1 hgbs)
                | (go_at_call 14; (with_reducible refine (outstanding_any w1.heap.size g2 s (winL l said d2 m2) x2 HS.out.win HS.out.lenW).mono ?_); rintro e x3 ⟨vo3, rfl, ho3, hb3⟩; obtain ⟨A3, c3, rfl⟩ := own_slice ho3; have HS3 := Lib.hid (HS.out.below hb3); clear ho3 hb3)
              )
              go_roundw
              case rel => exact ⟨d2, m2, nx, st + 1, said, g2, Ag2, cg2, by omega, rfl, rfl, by go_num, HN2.out, Lib.hid (HS3.out.idle HOE.out HNE.out)⟩
              case measure => simp [intOf]; omega
            · obtain ⟨r, hr⟩ : ∃ r, r = p / 4 % (outs (winL l said d2 m2)).length := ⟨_, rfl⟩
              have hrl : r < (outs (winL l said d2 m2)).length := by rw [hr]; exact Nat.mod_lt _ hol
              have hmod : p / 4 % (outs (winL l said d2 m2)).length < (outs (winL l said d2 m2)).length := by exact Nat.mod_lt _ hol
              have hmodI : (p : Int) / 4 % ((outs (winL l said d2 m2)).length : Int) < ((outs (winL l said d2 m2)).length : Int) ∧ 0 ≤ (p : Int) / 4 % ((outs (winL l said d2 m2)).length : Int) := ⟨Int.emod_lt_of_pos _ (by omega), Int.emod_nonneg _ (by omega)⟩
              have HRR := Lib.hid hr
              clear hr
              have HRL2 := Lib.hid hrl
              obtain ⟨i, hi1, hi2, hi3, hi4⟩ := sim_out HSIM.out hrl
              have HOI := Lib.hid hi3
              have hil : i < l.length := by have := HN2.out; omega
              have hgd : l.getD i default = l[i] := by simp [hil]
              obtain ⟨hgl, offl, rfl, hcl⟩ := Rd.elem ofc_len HRL.out hil rfl
              rw [← hgd] at hcl
              obtain ⟨o, ho⟩ : ∃ o, o = l.getD i default := ⟨_, rfl⟩
              obtain ⟨k, hk⟩ : ∃ k, k = said.getD i 0 := ⟨_, rfl⟩
              obtain ⟨x, hx⟩ : ∃ x, x = (ansOf o).getD k 0 := ⟨_, rfl⟩
              have hsa := sim_answer HSIM.out hi1 hi2 hi4
              rw [← ho] at hcl
              have HO := Lib.hid ho
              have HKK := Lib.hid hk
              have HX := Lib.hid hx
              have HI4 := Lib.hid hi4
              have HI1 := Lib.hid hi1
              have HI2 := Lib.hid hi2
              rw [← ho, ← hk] at hi4
              rw [← ho, ← hk, ← hx] at hsa
              have HAE := Lib.hid hsa.1
              have HAL := Lib.hid hsa.2.1
              have HGL := Lib.hid hgl
              have HCL := Lib.hid hcl
              have HB0 : Hid ((idc (idN i)).toArray[0]? = some (.int .u8 i)) := Lib.hid (byte0 (by omega))
              have HB1' : Hid ((ints (said.map Int.ofNat)).toArray[i]? = some (.int .i64 k)) := Lib.hid (by rw [List.getElem?_toArray, ints_get said (by have := HSIM.out.len; omega), hk])
              have hk2 : k ≤ 1 := by have := (ansOf_len o).2; omega
              have hneq : ∀ w, (binOp .neq 37 (.agg (idc (idN i)).toArray) (.agg (idc (idN i)).toArray)).run Try.prog w = .ok (.bool false) w := fun w => by rw [run_neq_ids]; simp
              clear hi1 hi2 hi3 ho hk hx hsa hgl hcl hgd
              go_wp2_with (first
                | (go_at_call 13; (with_reducible refine (settled_at w1.heap.size g' s (winL l said d m) wr HR.out.win HR.out.lenW HR.out.gb).mono ?_); rintro e x1 ⟨vs, rfl, hos, hgs, gs, hws, hgbs, hgns⟩; obtain ⟨As, cs, rfl⟩ := own_slice hos; have HOS := Lib.hid hos; have HGS := Lib.hid hgs; have HWS := Lib.hid hws; have HGNS := Lib.hid hgns; have hbs1 := hgs.size; clear hos hgs hws hgns)
                | ((with_reducible refine at_dst 68 ?_); refine wpList_app43 rfl (.tmp 65) (.tmp 67) rfl (w2.heap.size + 1) wr.heap.size d (settled (winL l said d m)).length (.slice Ag d cg) (.slice As (settled (winL l said d m)).length cs) ((gotL l d).flatMap resc) ((settled (winL l said d m)).flatMap resc) (by rfl) (by rfl) (HR.out.got.kept HGS.out (.inr fun e' => by have h1 := own_bd HR.out.got _ e'; have h2 := HR.out.bs; omega)) HOS.out (fun u hu => by obtain ⟨x, _, hx⟩ := List.mem_flatMap.1 hu; exact oneCell_resc x u hx) (by rw [HSL.out]; have h1 := HR.out.sim.nl; have h2 := HR.out.sim.n60; have h3 := HQM.out; omega) (by have h1 := HR.out.hB; omega) ?_; intro v2 x2 ho2 hg2 hv2; have hsx := HR.out.settle HQM.out HQG.out HQD.out HQS.out HSL.out HGS.out HWS.out hgbs HGNS.out ho2 hg2 hv2; obtain ⟨g2, hs2⟩ := hsx; rw [HD2.out, HM2.out] at hs2; obtain ⟨Ag2, cg2, rfl⟩ := own_slice hs2.got; have HS := Lib.hid hs2; clear ho2 hg2 hv2 hs2 HOS HGS HWS HGNS hbs1 hgbs)
                | (go_at_call 14; (with_reducible refine (outstanding_any w1.heap.size g2 s (winL l said d2 m2) x2 HS.out.win HS.out.lenW).mono ?_); rintro e y1 ⟨vo, rfl, hoo, hby⟩; obtain ⟨Ao, co, rfl⟩ := own_slice hoo; obtain ⟨go, hro, _, _⟩ := Rd.own hoo; obtain ⟨_, offo, rfl, hco⟩ := Rd.elem idc_len hro HRL2.out rfl; rw [HOI.out] at hco; have HCO := Lib.hid hco; have HY1 := Lib.hid (HS.out.below hby); clear hoo hby hro hco)
                | ((with_reducible refine at_dst 106 ?_); refine wpList_load_cells rfl 37 _ rfl go (offo + (p / 4 % (outs (winL l said d2 m2)).length) * 32) (idc (idN i)) rfl _ Try.underlying37 rfl (sz_id _) (fun j u hu => by have h0 := HCO.out j u hu; rw [HRR.out] at h0; exact h0) ?_)
                | ((with_reducible refine at_dst 16 ?_); refine wpList_al_id rfl rfl ?_; intro y2 hp2 hg2 hz2; have HP2 := Lib.hid hp2; have HG2 := Lib.hid hg2; clear hp2 hg2 hz2)
                | ((with_reducible refine at_store 37 16 ?_); refine wpList_st_id rfl (.tmp 16) (.tmp 106) rfl y1.heap.size (idN i) HP2.out (by kernel_rfl) (by kernel_rfl) ?_; intro y3 hp3 hg3 hz3; have hb3 : Below y1.heap.size y1 y3 := HG2.out.toBelow.grown hg3 HG2.out.size (fun x hx => by simp at hx; omega); have HP3 := Lib.hid hp3; have HY3 := Lib.hid (HY1.out.below hb3); have hid3 := (hp3.cell 0).trans HB0.out; clear hp3 hg3 hz3 hb3)
                | ((with_reducible refine at_dst 114 ?_); refine wpList_ld (by simp [Region.wanted, yielded, hil]) (.tmp 16) rfl y1.heap.size (idN i) (by kernel_rfl) HP3.out ?_)
                | ((with_reducible refine at_dst 117 ?_); refine wpList_runW (by simp [Region.wanted, yielded, hil]) (.agg (idc (idN i)).toArray) (exec_id i (by omega) _ rfl) ?_)
                | ((with_reducible refine at_dst 125 ?_); refine wpList_load_cells rfl 40 _ rfl gl (offl + i * 2) (ofc o) rfl _ Try.underlying40 rfl (size40' _) (fun j u hu => (HY3.out.bel.cell (p := ⟨gl, _, none⟩) HGL.out).trans (HCL.out j u hu)) ?_)
                | (go_at_call 16; (with_reducible refine (final_any o y3).mono ?_); rintro e y4 ⟨va, rfl, hoa, hba⟩; obtain ⟨Aa, ca, rfl⟩ := own_slice hoa; obtain ⟨ga, hra, _, _⟩ := Rd.own hoa; obtain ⟨offa, rfl, hga, hca⟩ := rd_int' hra hi4 HX.out; have HGA := Lib.hid hga; have HCA := Lib.hid hca; have HY4 := Lib.hid (HY3.out.below hba); have HP4 := Lib.hid (HP3.out.below hba); clear hoa hra hba hga hca)
              )
              clear hid3 hneq
              refine wp_region_seq (nt := 182) (by kernel_rfl) [0,1,2,3,4,5,6,7,8,9] [10, 11] Rb Rb.refl Rb.trans [] (by kernel_rfl) (by simp) rfl (by kernel_rfl) (by simp) trivial ?_
              (refine' Sq.det (E := _) (b := _) (by rfl) (by rfl) (by rfl) (fun w' hR hf => ?_) ?_ ?_; rotate_left 2; (· (go_simp; first | done | with_reducible rfl)); (· (simp only [Act.put, List.setIfInBounds_toArray, List.set_cons_zero, List.set_cons_succ]; first | done | rfl)))
              (refine' Sq.det (E := _) (b := _) (by rfl) (by rfl) (by rfl) (fun w' hR hf => ?_) ?_ ?_; rotate_left 2; (· (refine exec_load_cells 37 _ y1.heap.size 0 (idc (idN i)) ?_ _ Try.underlying37 rfl (sz_id _) (fun j u hu => ?_); (· kernel_rfl); (rw [Nat.zero_add, (HP4.out.below (below_undrew hR)).cell, List.getElem?_toArray]; exact hu))); (· (simp only [Act.put, List.setIfInBounds_toArray, List.set_cons_zero, List.set_cons_succ]; first | done | rfl)))
              (refine' Sq.det (E := _) (b := _) (by rfl) (by rfl) (by rfl) (fun w' hR hf => ?_) ?_ ?_; rotate_left 2; (· (go_simp; first | done | with_reducible rfl)); (· (simp only [Act.put, List.setIfInBounds_toArray, List.set_cons_zero, List.set_cons_succ]; first | done | rfl)))
              (refine' Sq.det (E := _) (b := _) (by rfl) (by rfl) (by rfl) (fun w' hR hf => ?_) ?_ ?_; rotate_left 2; (· (go_simp; first | done | with_reducible rfl)); (· (simp only [Act.put, List.setIfInBounds_toArray, List.set_cons_zero, List.set_cons_succ]; first | done | rfl)))
              (refine' Sq.det (E := _) (b := _) (by rfl) (by rfl) (by rfl) (fun w' hR hf => ?_) ?_ ?_; rotate_left 2; (· (go_simp; first | done | with_reducible rfl)); (· (simp only [Act.put, List.setIfInBounds_toArray, List.set_cons_zero, List.set_cons_succ]; first | done | rfl)))
              (refine' Sq.det (E := _) (b := _) (by rfl) (by rfl) (by rfl) (fun w' hR hf => ?_) ?_ ?_; rotate_left 2; (· (have hc := ((HP4.out.below (below_undrew hR)).cell 0).trans HB0.out; go_simp; first | done | with_reducible rfl)); (· (simp only [Act.put, List.setIfInBounds_toArray, List.set_cons_zero, List.set_cons_succ]; first | done | rfl)))
              (refine' Sq.det (E := _) (b := _) (by rfl) (by rfl) (by rfl) (fun w' hR hf => ?_) ?_ ?_; rotate_left 2; (· (go_simp; first | done | with_reducible rfl)); (· (simp only [Act.put, List.setIfInBounds_toArray, List.set_cons_zero, List.set_cons_succ]; first | done | rfl)))
              (refine' Sq.det (E := _) (b := _) (by rfl) (by rfl) (by rfl) (fun w' hR hf => ?_) ?_ ?_; rotate_left 2; (· (have hc := ((HY4.out.below (below_undrew hR)).srow.cell i).trans HB1'.out; go_simp; first | done | with_reducible rfl)); (· (simp only [Act.put, List.setIfInBounds_toArray, List.set_cons_zero, List.set_cons_succ]; first | done | rfl)))
              (refine' Sq.det (E := _) (b := _) (by rfl) (by rfl) (by rfl) (fun w' hR hf => ?_) ?_ ?_; rotate_left 2; (· (go_simp; first | done | with_reducible rfl)); (· (simp only [Act.put, List.setIfInBounds_toArray, List.set_cons_zero, List.set_cons_succ]; first | done | rfl)))
              (refine' Sq.det (E := _) (b := _) (by rfl) (by rfl) (by rfl) (fun w' hR hf => ?_) ?_ ?_; rotate_left 2; (· (have hc := ((below_undrew hR).cell (p := ⟨ga, offa + k, none⟩) HGA.out).trans HCA.out; go_simp; first | done | with_reducible rfl)); (· (simp only [Act.put, List.setIfInBounds_toArray, List.set_cons_zero, List.set_cons_succ]; first | done | rfl)))
              refine Sq.tail2 (by rfl) (by rfl) fun y5 hR _ => ?_
              have HY5 := Lib.hid (HY4.out.below (below_undrew hR))
              have HP5 := Lib.hid (HP4.out.below (below_undrew hR))
              clear hR
              go_wp2_with (first
                | (go_at_call 17; (with_reducible refine (answer_at w1.heap.size g2 s (winL l said d2 m2) (idN i) x y5 HY5.out.win HY5.out.lenW HY5.out.gb HOKW.out).mono ?_); rintro e y6 ⟨he, hg6, g6, hw6, hgb6, hgn6⟩; rw [HAE.out] at he; subst he; rw [HAL.out] at hw6; have hbs := HY5.out.bs; have hid6 := ((HP5.out.grown hg6 (by have h1 := HY1.out.hB; simp; omega)).cell 0).trans HB0.out; have hsr := (HY5.out.srow.grown hg6 (by simp; omega)); have hsc := (hsr.cell i).trans HB1'.out; have hfz := hsr.frozen i; have hfin := HY5.out.answered HI1.out HI2.out HI4.out hg6 (by rw [← HKK.out]; exact hw6) hgb6 hgn6; rw [← HKK.out] at hfin; have HFIN := Lib.hid hfin; clear hbs hg6 hw6 hgb6 hgn6 hsr hfin))
              go_roundw
              case rel => exact ⟨d2, m2, nx, st + 1, said.set i (k + 1), g6, Ag2, cg2, by omega, rfl, rfl, by go_num, HN2.out, HFIN⟩
              case measure => simp [intOf]; omega
        · rcases (by omega : p % 3 = 1 ∨ p % 3 = 2) with hA1 | hA1
          · have hm3 := rem3 p 1 hA1
            clear hA hA1
            obtain ⟨d2, rfl⟩ : ∃ d2, d2 = d := ⟨_, rfl⟩
            obtain ⟨m2, rfl⟩ : ∃ m2, m2 = m := ⟨_, rfl⟩
            obtain ⟨g2, rfl⟩ : ∃ g2, g2 = g' := ⟨_, rfl⟩
            obtain ⟨Ag2, rfl⟩ : ∃ A2, A2 = Ag := ⟨_, rfl⟩
            obtain ⟨cg2, rfl⟩ : ∃ c2, c2 = cg := ⟨_, rfl⟩
            obtain ⟨x2, rfl⟩ : ∃ x2, x2 = wr := ⟨_, rfl⟩
            have HS := HR
            have HN2 := HNX
            have HSIM : Hid (Sim l said d2 m2) := Lib.hid HR.out.sim
            have HOKW : Hid (OkL (winL l said d2 m2)) := Lib.hid ok_winL
            by_cases hn : nx < l.length
            · have HNL : Hid (d2 + m2 < l.length) := Lib.hid (by have := HN2.out; omega)
              have HAS : Hid (hasId (winL l said d2 m2) (idN nx) = false) := Lib.hid (by have := sim_has HSIM.out HNL.out; rwa [HN2.out] at this)
              by_cases hE : p % 2 = 0
              · have hm2 := rem2 p 0 hE
                clear hE
                cases hbz : busyB s (winL l said d2 m2) with
                | false =>
                  have HBZ := Lib.hid hbz
                  clear hbz
                  go_wp2_with (first
                    | (go_at_call 13; (with_reducible refine (settled_at w1.heap.size g' s (winL l said d m) wr HR.out.win HR.out.lenW HR.out.gb).mono ?_); rintro e x1 ⟨vs, rfl, hos, hgs, gs, hws, hgbs, hgns⟩; obtain ⟨As, cs, rfl⟩ := own_slice hos; have HOS := Lib.hid hos; have HGS := Lib.hid hgs; have HWS := Lib.hid hws; have HGNS := Lib.hid hgns; have hbs1 := hgs.size; clear hos hgs hws hgns)
                    | ((with_reducible refine at_dst 68 ?_); refine wpList_app43 rfl (.tmp 65) (.tmp 67) rfl (w2.heap.size + 1) wr.heap.size d (settled (winL l said d m)).length (.slice Ag d cg) (.slice As (settled (winL l said d m)).length cs) ((gotL l d).flatMap resc) ((settled (winL l said d m)).flatMap resc) (by rfl) (by rfl) (HR.out.got.kept HGS.out (.inr fun e' => by have h1 := own_bd HR.out.got _ e'; have h2 := HR.out.bs; omega)) HOS.out (fun u hu => by obtain ⟨x, _, hx⟩ := List.mem_flatMap.1 hu; exact oneCell_resc x u hx) (by rw [HSL.out]; have h1 := HR.out.sim.nl; have h2 := HR.out.sim.n60; have h3 := HQM.out; omega) (by have h1 := HR.out.hB; omega) ?_; intro v2 x2 ho2 hg2 hv2; have hsx := HR.out.settle HQM.out HQG.out HQD.out HQS.out HSL.out HGS.out HWS.out hgbs HGNS.out ho2 hg2 hv2; obtain ⟨g2, hs2⟩ := hsx; rw [HD2.out, HM2.out] at hs2; obtain ⟨Ag2, cg2, rfl⟩ := own_slice hs2.got; have HS := Lib.hid hs2; clear ho2 hg2 hv2 hs2 HOS HGS HWS HGNS hbs1 hgbs)
                    | ((with_reducible refine at_dst 88 ?_); refine wpList_runW (by simp [Region.wanted, yielded]) (.agg (idc (idN nx)).toArray) (exec_id nx (by omega) _ rfl) ?_)
                    | (go_at_call 15; (with_reducible refine (offer_ok w1.heap.size g2 s (winL l said d2 m2) (idN nx) 10 x2 HS.out.win HS.out.lenW HS.out.gb HZ10.out HAS.out HBZ.out).mono ?_); rintro e x4 ⟨rfl, hg4, g4, hw4, hgb4, hgn4⟩; rw [← HN2.out] at hw4; have hs4 := HS.out.offered HNL.out HBZ.out hg4 hw4 hgb4 hgn4; have HS4 := Lib.hid hs4; clear hg4 hw4 hgb4 hgn4 hs4)
                  )
                  go_roundw
                  case rel => exact ⟨d2, m2 + 1, nx + 1, st + 1, said, g4, Ag2, cg2, by omega, rfl, by go_num, by go_num, by have := HN2.out; omega, HS4⟩
                  case measure => simp [intOf]; omega
                | true =>
                  have HBZ := Lib.hid hbz
                  have hol : 0 < (outs (winL l said d2 m2)).length := by have h1 : s ≤ ((outs (winL l said d2 m2)).length : Int) := (by simpa [busyB] using hbz); have := HS1.out; omega
                  clear hbz
                  obtain ⟨r, hr⟩ : ∃ r, r = p / 4 % (outs (winL l said d2 m2)).length := ⟨_, rfl⟩
                  have hrl : r < (outs (winL l said d2 m2)).length := by rw [hr]; exact Nat.mod_lt _ hol
                  have hmod : p / 4 % (outs (winL l said d2 m2)).length < (outs (winL l said d2 m2)).length := by exact Nat.mod_lt _ hol
                  have hmodI : (p : Int) / 4 % ((outs (winL l said d2 m2)).length : Int) < ((outs (winL l said d2 m2)).length : Int) ∧ 0 ≤ (p : Int) / 4 % ((outs (winL l said d2 m2)).length : Int) := ⟨Int.emod_lt_of_pos _ (by omega), Int.emod_nonneg _ (by omega)⟩
                  have HRR := Lib.hid hr
                  clear hr
                  have HRL2 := Lib.hid hrl
                  obtain ⟨i, hi1, hi2, hi3, hi4⟩ := sim_out HSIM.out hrl
                  have HOI := Lib.hid hi3
                  have hil : i < l.length := by have := HN2.out; omega
                  have hgd : l.getD i default = l[i] := by simp [hil]
                  obtain ⟨hgl, offl, rfl, hcl⟩ := Rd.elem ofc_len HRL.out hil rfl
                  rw [← hgd] at hcl
                  obtain ⟨o, ho⟩ : ∃ o, o = l.getD i default := ⟨_, rfl⟩
                  obtain ⟨k, hk⟩ : ∃ k, k = said.getD i 0 := ⟨_, rfl⟩
                  obtain ⟨x, hx⟩ : ∃ x, x = (ansOf o).getD k 0 := ⟨_, rfl⟩
                  have hsa := sim_answer HSIM.out hi1 hi2 hi4
                  rw [← ho] at hcl
                  have HO := Lib.hid ho
                  have HKK := Lib.hid hk
                  have HX := Lib.hid hx
                  have HI4 := Lib.hid hi4
                  have HI1 := Lib.hid hi1
                  have HI2 := Lib.hid hi2
                  rw [← ho, ← hk] at hi4
                  rw [← ho, ← hk, ← hx] at hsa
                  have HAE := Lib.hid hsa.1
                  have HAL := Lib.hid hsa.2.1
                  have HGL := Lib.hid hgl
                  have HCL := Lib.hid hcl
                  have HB0 : Hid ((idc (idN i)).toArray[0]? = some (.int .u8 i)) := Lib.hid (byte0 (by omega))
                  have HB1' : Hid ((ints (said.map Int.ofNat)).toArray[i]? = some (.int .i64 k)) := Lib.hid (by rw [List.getElem?_toArray, ints_get said (by have := HSIM.out.len; omega), hk])
                  have hk2 : k ≤ 1 := by have := (ansOf_len o).2; omega
                  have hneq : ∀ w, (binOp .neq 37 (.agg (idc (idN i)).toArray) (.agg (idc (idN i)).toArray)).run Try.prog w = .ok (.bool false) w := fun w => by rw [run_neq_ids]; simp
                  clear hi1 hi2 hi3 ho hk hx hsa hgl hcl hgd
                  go_wp2_with (first
                    | (go_at_call 13; (with_reducible refine (settled_at w1.heap.size g' s (winL l said d m) wr HR.out.win HR.out.lenW HR.out.gb).mono ?_); rintro e x1 ⟨vs, rfl, hos, hgs, gs, hws, hgbs, hgns⟩; obtain ⟨As, cs, rfl⟩ := own_slice hos; have HOS := Lib.hid hos; have HGS := Lib.hid hgs; have HWS := Lib.hid hws; have HGNS := Lib.hid hgns; have hbs1 := hgs.size; clear hos hgs hws hgns)
                    | ((with_reducible refine at_dst 68 ?_); refine wpList_app43 rfl (.tmp 65) (.tmp 67) rfl (w2.heap.size + 1) wr.heap.size d (settled (winL l said d m)).length (.slice Ag d cg) (.slice As (settled (winL l said d m)).length cs) ((gotL l d).flatMap resc) ((settled (winL l said d m)).flatMap resc) (by rfl) (by rfl) (HR.out.got.kept HGS.out (.inr fun e' => by have h1 := own_bd HR.out.got _ e'; have h2 := HR.out.bs; omega)) HOS.out (fun u hu => by obtain ⟨x, _, hx⟩ := List.mem_flatMap.1 hu; exact oneCell_resc x u hx) (by rw [HSL.out]; have h1 := HR.out.sim.nl; have h2 := HR.out.sim.n60; have h3 := HQM.out; omega) (by have h1 := HR.out.hB; omega) ?_; intro v2 x2 ho2 hg2 hv2; have hsx := HR.out.settle HQM.out HQG.out HQD.out HQS.out HSL.out HGS.out HWS.out hgbs HGNS.out ho2 hg2 hv2; obtain ⟨g2, hs2⟩ := hsx; rw [HD2.out, HM2.out] at hs2; obtain ⟨Ag2, cg2, rfl⟩ := own_slice hs2.got; have HS := Lib.hid hs2; clear ho2 hg2 hv2 hs2 HOS HGS HWS HGNS hbs1 hgbs)
                    | ((with_reducible refine at_dst 88 ?_); refine wpList_runW (by simp [Region.wanted, yielded]) (.agg (idc (idN nx)).toArray) (exec_id nx (by omega) _ rfl) ?_)
                    | (go_at_call 15; (with_reducible refine (offer_busy w1.heap.size g2 s (winL l said d2 m2) (idN nx) 10 x2 HS.out.win HS.out.lenW HS.out.gb HZ10.out HAS.out HBZ.out).mono ?_); rintro e x3 ⟨rfl, hb3⟩; have HS3 := Lib.hid (HS.out.below hb3); clear hb3)
                    | (go_at_call 14; (with_reducible refine (outstanding_any w1.heap.size g2 s (winL l said d2 m2) x3 HS3.out.win HS3.out.lenW).mono ?_); rintro e y1 ⟨vo, rfl, hoo, hby⟩; obtain ⟨Ao, co, rfl⟩ := own_slice hoo; obtain ⟨go, hro, _, _⟩ := Rd.own hoo; obtain ⟨_, offo, rfl, hco⟩ := Rd.elem idc_len hro HRL2.out rfl; rw [HOI.out] at hco; have HCO := Lib.hid hco; have HY1 := Lib.hid (HS3.out.below hby); clear hoo hby hro hco)
                    | ((with_reducible refine at_dst 106 ?_); refine wpList_load_cells rfl 37 _ rfl go (offo + (p / 4 % (outs (winL l said d2 m2)).length) * 32) (idc (idN i)) rfl _ Try.underlying37 rfl (sz_id _) (fun j u hu => by have h0 := HCO.out j u hu; rw [HRR.out] at h0; exact h0) ?_)
                    | ((with_reducible refine at_dst 16 ?_); refine wpList_al_id rfl rfl ?_; intro y2 hp2 hg2 hz2; have HP2 := Lib.hid hp2; have HG2 := Lib.hid hg2; clear hp2 hg2 hz2)
                    | ((with_reducible refine at_store 37 16 ?_); refine wpList_st_id rfl (.tmp 16) (.tmp 106) rfl y1.heap.size (idN i) HP2.out (by kernel_rfl) (by kernel_rfl) ?_; intro y3 hp3 hg3 hz3; have hb3 : Below y1.heap.size y1 y3 := HG2.out.toBelow.grown hg3 HG2.out.size (fun x hx => by simp at hx; omega); have HP3 := Lib.hid hp3; have HY3 := Lib.hid (HY1.out.below hb3); have hid3 := (hp3.cell 0).trans HB0.out; clear hp3 hg3 hz3 hb3)
                    | ((with_reducible refine at_dst 114 ?_); refine wpList_ld (by simp [Region.wanted, yielded, hil]) (.tmp 16) rfl y1.heap.size (idN i) (by kernel_rfl) HP3.out ?_)
                    | ((with_reducible refine at_dst 117 ?_); refine wpList_runW (by simp [Region.wanted, yielded, hil]) (.agg (idc (idN i)).toArray) (exec_id i (by omega) _ rfl) ?_)
                    | ((with_reducible refine at_dst 125 ?_); refine wpList_load_cells rfl 40 _ rfl gl (offl + i * 2) (ofc o) rfl _ Try.underlying40 rfl (size40' _) (fun j u hu => (HY3.out.bel.cell (p := ⟨gl, _, none⟩) HGL.out).trans (HCL.out j u hu)) ?_)
                    | (go_at_call 16; (with_reducible refine (final_any o y3).mono ?_); rintro e y4 ⟨va, rfl, hoa, hba⟩; obtain ⟨Aa, ca, rfl⟩ := own_slice hoa; obtain ⟨ga, hra, _, _⟩ := Rd.own hoa; obtain ⟨offa, rfl, hga, hca⟩ := rd_int' hra hi4 HX.out; have HGA := Lib.hid hga; have HCA := Lib.hid hca; have HY4 := Lib.hid (HY3.out.below hba); have HP4 := Lib.hid (HP3.out.below hba); clear hoa hra hba hga hca)
                  )
                  clear hid3 hneq
                  refine wp_region_seq (nt := 182) (by kernel_rfl) [0,1,2,3,4,5,6,7,8,9] [10, 11] Rb Rb.refl Rb.trans [] (by kernel_rfl) (by simp) rfl (by kernel_rfl) (by simp) trivial ?_
                  (refine' Sq.det (E := _) (b := _) (by rfl) (by rfl) (by rfl) (fun w' hR hf => ?_) ?_ ?_; rotate_left 2; (· (go_simp; first | done | with_reducible rfl)); (· (simp only [Act.put, List.setIfInBounds_toArray, List.set_cons_zero, List.set_cons_succ]; first | done | rfl)))
                  (refine' Sq.det (E := _) (b := _) (by rfl) (by rfl) (by rfl) (fun w' hR hf => ?_) ?_ ?_; rotate_left 2; (· (refine exec_load_cells 37 _ y1.heap.size 0 (idc (idN i)) ?_ _ Try.underlying37 rfl (sz_id _) (fun j u hu => ?_); (· kernel_rfl); (rw [Nat.zero_add, (HP4.out.below (below_undrew hR)).cell, List.getElem?_toArray]; exact hu))); (· (simp only [Act.put, List.setIfInBounds_toArray, List.set_cons_zero, List.set_cons_succ]; first | done | rfl)))
                  (refine' Sq.det (E := _) (b := _) (by rfl) (by rfl) (by rfl) (fun w' hR hf => ?_) ?_ ?_; rotate_left 2; (· (go_simp; first | done | with_reducible rfl)); (· (simp only [Act.put, List.setIfInBounds_toArray, List.set_cons_zero, List.set_cons_succ]; first | done | rfl)))
                  (refine' Sq.det (E := _) (b := _) (by rfl) (by rfl) (by rfl) (fun w' hR hf => ?_) ?_ ?_; rotate_left 2; (· (go_simp; first | done | with_reducible rfl)); (· (simp only [Act.put, List.setIfInBounds_toArray, List.set_cons_zero, List.set_cons_succ]; first | done | rfl)))
                  (refine' Sq.det (E := _) (b := _) (by rfl) (by rfl) (by rfl) (fun w' hR hf => ?_) ?_ ?_; rotate_left 2; (· (go_simp; first | done | with_reducible rfl)); (· (simp only [Act.put, List.setIfInBounds_toArray, List.set_cons_zero, List.set_cons_succ]; first | done | rfl)))
                  (refine' Sq.det (E := _) (b := _) (by rfl) (by rfl) (by rfl) (fun w' hR hf => ?_) ?_ ?_; rotate_left 2; (· (have hc := ((HP4.out.below (below_undrew hR)).cell 0).trans HB0.out; go_simp; first | done | with_reducible rfl)); (· (simp only [Act.put, List.setIfInBounds_toArray, List.set_cons_zero, List.set_cons_succ]; first | done | rfl)))
                  (refine' Sq.det (E := _) (b := _) (by rfl) (by rfl) (by rfl) (fun w' hR hf => ?_) ?_ ?_; rotate_left 2; (· (go_simp; first | done | with_reducible rfl)); (· (simp only [Act.put, List.setIfInBounds_toArray, List.set_cons_zero, List.set_cons_succ]; first | done | rfl)))
                  (refine' Sq.det (E := _) (b := _) (by rfl) (by rfl) (by rfl) (fun w' hR hf => ?_) ?_ ?_; rotate_left 2; (· (have hc := ((HY4.out.below (below_undrew hR)).srow.cell i).trans HB1'.out; go_simp; first | done | with_reducible rfl)); (· (simp only [Act.put, List.setIfInBounds_toArray, List.set_cons_zero, List.set_cons_succ]; first | done | rfl)))
                  (refine' Sq.det (E := _) (b := _) (by rfl) (by rfl) (by rfl) (fun w' hR hf => ?_) ?_ ?_; rotate_left 2; (· (go_simp; first | done | with_reducible rfl)); (· (simp only [Act.put, List.setIfInBounds_toArray, List.set_cons_zero, List.set_cons_succ]; first | done | rfl)))
                  (refine' Sq.det (E := _) (b := _) (by rfl) (by rfl) (by rfl) (fun w' hR hf => ?_) ?_ ?_; rotate_left 2; (· (have hc := ((below_undrew hR).cell (p := ⟨ga, offa + k, none⟩) HGA.out).trans HCA.out; go_simp; first | done | with_reducible rfl)); (· (simp only [Act.put, List.setIfInBounds_toArray, List.set_cons_zero, List.set_cons_succ]; first | done | rfl)))
                  refine Sq.tail2 (by rfl) (by rfl) fun y5 hR _ => ?_
                  have HY5 := Lib.hid (HY4.out.below (below_undrew hR))
                  have HP5 := Lib.hid (HP4.out.below (below_undrew hR))
                  clear hR
                  go_wp2_with (first
                    | (go_at_call 17; (with_reducible refine (answer_at w1.heap.size g2 s (winL l said d2 m2) (idN i) x y5 HY5.out.win HY5.out.lenW HY5.out.gb HOKW.out).mono ?_); rintro e y6 ⟨he, hg6, g6, hw6, hgb6, hgn6⟩; rw [HAE.out] at he; subst he; rw [HAL.out] at hw6; have hbs := HY5.out.bs; have hid6 := ((HP5.out.grown hg6 (by have h1 := HY1.out.hB; simp; omega)).cell 0).trans HB0.out; have hsr := (HY5.out.srow.grown hg6 (by simp; omega)); have hsc := (hsr.cell i).trans HB1'.out; have hfz := hsr.frozen i; have hfin := HY5.out.answered HI1.out HI2.out HI4.out hg6 (by rw [← HKK.out]; exact hw6) hgb6 hgn6; rw [← HKK.out] at hfin; have HFIN := Lib.hid hfin; clear hbs hg6 hw6 hgb6 hgn6 hsr hfin))
                  go_roundw
                  case rel => exact ⟨d2, m2, nx, st + 1, said.set i (k + 1), g6, Ag2, cg2, by omega, rfl, rfl, by go_num, HN2.out, HFIN⟩
                  case measure => simp [intOf]; omega
              · have hm2 := rem2 p 1 (by omega)
                clear hE
                rcases Nat.eq_zero_or_pos (outs (winL l said d2 m2)).length with hol | hol
                · have hbz : busyB s (winL l said d2 m2) = false := by have := HS1.out; simp [busyB]; omega
                  have HBZ := Lib.hid hbz
                  clear hbz
                  go_wp2_with (first
                    | (go_at_call 13; (with_reducible refine (settled_at w1.heap.size g' s (winL l said d m) wr HR.out.win HR.out.lenW HR.out.gb).mono ?_); rintro e x1 ⟨vs, rfl, hos, hgs, gs, hws, hgbs, hgns⟩; obtain ⟨As, cs, rfl⟩ := own_slice hos; have HOS := Lib.hid hos; have HGS := Lib.hid hgs; have HWS := Lib.hid hws; have HGNS := Lib.hid hgns; have hbs1 := hgs.size; clear hos hgs hws hgns)
                    | ((with_reducible refine at_dst 68 ?_); refine wpList_app43 rfl (.tmp 65) (.tmp 67) rfl (w2.heap.size + 1) wr.heap.size d (settled (winL l said d m)).length (.slice Ag d cg) (.slice As (settled (winL l said d m)).length cs) ((gotL l d).flatMap resc) ((settled (winL l said d m)).flatMap resc) (by rfl) (by rfl) (HR.out.got.kept HGS.out (.inr fun e' => by have h1 := own_bd HR.out.got _ e'; have h2 := HR.out.bs; omega)) HOS.out (fun u hu => by obtain ⟨x, _, hx⟩ := List.mem_flatMap.1 hu; exact oneCell_resc x u hx) (by rw [HSL.out]; have h1 := HR.out.sim.nl; have h2 := HR.out.sim.n60; have h3 := HQM.out; omega) (by have h1 := HR.out.hB; omega) ?_; intro v2 x2 ho2 hg2 hv2; have hsx := HR.out.settle HQM.out HQG.out HQD.out HQS.out HSL.out HGS.out HWS.out hgbs HGNS.out ho2 hg2 hv2; obtain ⟨g2, hs2⟩ := hsx; rw [HD2.out, HM2.out] at hs2; obtain ⟨Ag2, cg2, rfl⟩ := own_slice hs2.got; have HS := Lib.hid hs2; clear ho2 hg2 hv2 hs2 HOS HGS HWS HGNS hbs1 hgbs)
                    | (go_at_call 14; (with_reducible refine (outstanding_any w1.heap.size g2 s (winL l said d2 m2) x2 HS.out.win HS.out.lenW).mono ?_); rintro e x3 ⟨vo3, rfl, ho3, hb3⟩; obtain ⟨A3, c3, rfl⟩ := own_slice ho3; have HS3 := Lib.hid (HS.out.below hb3); clear ho3 hb3)
                    | ((with_reducible refine at_dst 88 ?_); refine wpList_runW (by simp [Region.wanted, yielded]) (.agg (idc (idN nx)).toArray) (exec_id nx (by omega) _ rfl) ?_)
                    | (go_at_call 15; (with_reducible refine (offer_ok w1.heap.size g2 s (winL l said d2 m2) (idN nx) 10 x3 HS3.out.win HS3.out.lenW HS3.out.gb HZ10.out HAS.out HBZ.out).mono ?_); rintro e x4 ⟨rfl, hg4, g4, hw4, hgb4, hgn4⟩; rw [← HN2.out] at hw4; have hs4 := HS3.out.offered HNL.out HBZ.out hg4 hw4 hgb4 hgn4; have HS4 := Lib.hid hs4; clear hg4 hw4 hgb4 hgn4 hs4)
                  )
                  go_roundw
                  case rel => exact ⟨d2, m2 + 1, nx + 1, st + 1, said, g4, Ag2, cg2, by omega, rfl, by go_num, by go_num, by have := HN2.out; omega, HS4⟩
                  case measure => simp [intOf]; omega
                · have hob : ¬ outs (winL l said d2 m2) = [] := fun h => by rw [h] at hol; simp at hol
                  obtain ⟨r, hr⟩ : ∃ r, r = p / 4 % (outs (winL l said d2 m2)).length := ⟨_, rfl⟩
                  have hrl : r < (outs (winL l said d2 m2)).length := by rw [hr]; exact Nat.mod_lt _ hol
                  have hmod : p / 4 % (outs (winL l said d2 m2)).length < (outs (winL l said d2 m2)).length := by exact Nat.mod_lt _ hol
                  have hmodI : (p : Int) / 4 % ((outs (winL l said d2 m2)).length : Int) < ((outs (winL l said d2 m2)).length : Int) ∧ 0 ≤ (p : Int) / 4 % ((outs (winL l said d2 m2)).length : Int) := ⟨Int.emod_lt_of_pos _ (by omega), Int.emod_nonneg _ (by omega)⟩
                  have HRR := Lib.hid hr
                  clear hr
                  have HRL2 := Lib.hid hrl
                  obtain ⟨i, hi1, hi2, hi3, hi4⟩ := sim_out HSIM.out hrl
                  have HOI := Lib.hid hi3
                  have hil : i < l.length := by have := HN2.out; omega
                  have hgd : l.getD i default = l[i] := by simp [hil]
                  obtain ⟨hgl, offl, rfl, hcl⟩ := Rd.elem ofc_len HRL.out hil rfl
                  rw [← hgd] at hcl
                  obtain ⟨o, ho⟩ : ∃ o, o = l.getD i default := ⟨_, rfl⟩
                  obtain ⟨k, hk⟩ : ∃ k, k = said.getD i 0 := ⟨_, rfl⟩
                  obtain ⟨x, hx⟩ : ∃ x, x = (ansOf o).getD k 0 := ⟨_, rfl⟩
                  have hsa := sim_answer HSIM.out hi1 hi2 hi4
                  rw [← ho] at hcl
                  have HO := Lib.hid ho
                  have HKK := Lib.hid hk
                  have HX := Lib.hid hx
                  have HI4 := Lib.hid hi4
                  have HI1 := Lib.hid hi1
                  have HI2 := Lib.hid hi2
                  rw [← ho, ← hk] at hi4
                  rw [← ho, ← hk, ← hx] at hsa
                  have HAE := Lib.hid hsa.1
                  have HAL := Lib.hid hsa.2.1
                  have HGL := Lib.hid hgl
                  have HCL := Lib.hid hcl
                  have HB0 : Hid ((idc (idN i)).toArray[0]? = some (.int .u8 i)) := Lib.hid (byte0 (by omega))
                  have HB1' : Hid ((ints (said.map Int.ofNat)).toArray[i]? = some (.int .i64 k)) := Lib.hid (by rw [List.getElem?_toArray, ints_get said (by have := HSIM.out.len; omega), hk])
                  have hk2 : k ≤ 1 := by have := (ansOf_len o).2; omega
                  have hneq : ∀ w, (binOp .neq 37 (.agg (idc (idN i)).toArray) (.agg (idc (idN i)).toArray)).run Try.prog w = .ok (.bool false) w := fun w => by rw [run_neq_ids]; simp
                  clear hi1 hi2 hi3 ho hk hx hsa hgl hcl hgd
                  go_wp2_with (first
                    | (go_at_call 13; (with_reducible refine (settled_at w1.heap.size g' s (winL l said d m) wr HR.out.win HR.out.lenW HR.out.gb).mono ?_); rintro e x1 ⟨vs, rfl, hos, hgs, gs, hws, hgbs, hgns⟩; obtain ⟨As, cs, rfl⟩ := own_slice hos; have HOS := Lib.hid hos; have HGS := Lib.hid hgs; have HWS := Lib.hid hws; have HGNS := Lib.hid hgns; have hbs1 := hgs.size; clear hos hgs hws hgns)
                    | ((with_reducible refine at_dst 68 ?_); refine wpList_app43 rfl (.tmp 65) (.tmp 67) rfl (w2.heap.size + 1) wr.heap.size d (settled (winL l said d m)).length (.slice Ag d cg) (.slice As (settled (winL l said d m)).length cs) ((gotL l d).flatMap resc) ((settled (winL l said d m)).flatMap resc) (by rfl) (by rfl) (HR.out.got.kept HGS.out (.inr fun e' => by have h1 := own_bd HR.out.got _ e'; have h2 := HR.out.bs; omega)) HOS.out (fun u hu => by obtain ⟨x, _, hx⟩ := List.mem_flatMap.1 hu; exact oneCell_resc x u hx) (by rw [HSL.out]; have h1 := HR.out.sim.nl; have h2 := HR.out.sim.n60; have h3 := HQM.out; omega) (by have h1 := HR.out.hB; omega) ?_; intro v2 x2 ho2 hg2 hv2; have hsx := HR.out.settle HQM.out HQG.out HQD.out HQS.out HSL.out HGS.out HWS.out hgbs HGNS.out ho2 hg2 hv2; obtain ⟨g2, hs2⟩ := hsx; rw [HD2.out, HM2.out] at hs2; obtain ⟨Ag2, cg2, rfl⟩ := own_slice hs2.got; have HS := Lib.hid hs2; clear ho2 hg2 hv2 hs2 HOS HGS HWS HGNS hbs1 hgbs)
                    | (go_at_call 14; (with_reducible refine (outstanding_any w1.heap.size g2 s (winL l said d2 m2) x2 HS.out.win HS.out.lenW).mono ?_); rintro e x3 ⟨vo3, rfl, ho3, hb3⟩; obtain ⟨A3, c3, rfl⟩ := own_slice ho3; have HS3 := Lib.hid (HS.out.below hb3); clear ho3 hb3)
                    | (go_at_call 14; (with_reducible refine (outstanding_any w1.heap.size g2 s (winL l said d2 m2) x3 HS3.out.win HS3.out.lenW).mono ?_); rintro e y1 ⟨vo, rfl, hoo, hby⟩; obtain ⟨Ao, co, rfl⟩ := own_slice hoo; obtain ⟨go, hro, _, _⟩ := Rd.own hoo; obtain ⟨_, offo, rfl, hco⟩ := Rd.elem idc_len hro HRL2.out rfl; rw [HOI.out] at hco; have HCO := Lib.hid hco; have HY1 := Lib.hid (HS3.out.below hby); clear hoo hby hro hco)
                    | ((with_reducible refine at_dst 106 ?_); refine wpList_load_cells rfl 37 _ rfl go (offo + (p / 4 % (outs (winL l said d2 m2)).length) * 32) (idc (idN i)) rfl _ Try.underlying37 rfl (sz_id _) (fun j u hu => by have h0 := HCO.out j u hu; rw [HRR.out] at h0; exact h0) ?_)
                    | ((with_reducible refine at_dst 16 ?_); refine wpList_al_id rfl rfl ?_; intro y2 hp2 hg2 hz2; have HP2 := Lib.hid hp2; have HG2 := Lib.hid hg2; clear hp2 hg2 hz2)
                    | ((with_reducible refine at_store 37 16 ?_); refine wpList_st_id rfl (.tmp 16) (.tmp 106) rfl y1.heap.size (idN i) HP2.out (by kernel_rfl) (by kernel_rfl) ?_; intro y3 hp3 hg3 hz3; have hb3 : Below y1.heap.size y1 y3 := HG2.out.toBelow.grown hg3 HG2.out.size (fun x hx => by simp at hx; omega); have HP3 := Lib.hid hp3; have HY3 := Lib.hid (HY1.out.below hb3); have hid3 := (hp3.cell 0).trans HB0.out; clear hp3 hg3 hz3 hb3)
                    | ((with_reducible refine at_dst 114 ?_); refine wpList_ld (by simp [Region.wanted, yielded, hil]) (.tmp 16) rfl y1.heap.size (idN i) (by kernel_rfl) HP3.out ?_)
                    | ((with_reducible refine at_dst 117 ?_); refine wpList_runW (by simp [Region.wanted, yielded, hil]) (.agg (idc (idN i)).toArray) (exec_id i (by omega) _ rfl) ?_)
                    | ((with_reducible refine at_dst 125 ?_); refine wpList_load_cells rfl 40 _ rfl gl (offl + i * 2) (ofc o) rfl _ Try.underlying40 rfl (size40' _) (fun j u hu => (HY3.out.bel.cell (p := ⟨gl, _, none⟩) HGL.out).trans (HCL.out j u hu)) ?_)
                    | (go_at_call 16; (with_reducible refine (final_any o y3).mono ?_); rintro e y4 ⟨va, rfl, hoa, hba⟩; obtain ⟨Aa, ca, rfl⟩ := own_slice hoa; obtain ⟨ga, hra, _, _⟩ := Rd.own hoa; obtain ⟨offa, rfl, hga, hca⟩ := rd_int' hra hi4 HX.out; have HGA := Lib.hid hga; have HCA := Lib.hid hca; have HY4 := Lib.hid (HY3.out.below hba); have HP4 := Lib.hid (HP3.out.below hba); clear hoa hra hba hga hca)
                  )
                  clear hid3 hneq
                  refine wp_region_seq (nt := 182) (by kernel_rfl) [0,1,2,3,4,5,6,7,8,9] [10, 11] Rb Rb.refl Rb.trans [] (by kernel_rfl) (by simp) rfl (by kernel_rfl) (by simp) trivial ?_
                  (refine' Sq.det (E := _) (b := _) (by rfl) (by rfl) (by rfl) (fun w' hR hf => ?_) ?_ ?_; rotate_left 2; (· (go_simp; first | done | with_reducible rfl)); (· (simp only [Act.put, List.setIfInBounds_toArray, List.set_cons_zero, List.set_cons_succ]; first | done | rfl)))
                  (refine' Sq.det (E := _) (b := _) (by rfl) (by rfl) (by rfl) (fun w' hR hf => ?_) ?_ ?_; rotate_left 2; (· (refine exec_load_cells 37 _ y1.heap.size 0 (idc (idN i)) ?_ _ Try.underlying37 rfl (sz_id _) (fun j u hu => ?_); (· kernel_rfl); (rw [Nat.zero_add, (HP4.out.below (below_undrew hR)).cell, List.getElem?_toArray]; exact hu))); (· (simp only [Act.put, List.setIfInBounds_toArray, List.set_cons_zero, List.set_cons_succ]; first | done | rfl)))
                  (refine' Sq.det (E := _) (b := _) (by rfl) (by rfl) (by rfl) (fun w' hR hf => ?_) ?_ ?_; rotate_left 2; (· (go_simp; first | done | with_reducible rfl)); (· (simp only [Act.put, List.setIfInBounds_toArray, List.set_cons_zero, List.set_cons_succ]; first | done | rfl)))
                  (refine' Sq.det (E := _) (b := _) (by rfl) (by rfl) (by rfl) (fun w' hR hf => ?_) ?_ ?_; rotate_left 2; (· (go_simp; first | done | with_reducible rfl)); (· (simp only [Act.put, List.setIfInBounds_toArray, List.set_cons_zero, List.set_cons_succ]; first | done | rfl)))
                  (refine' Sq.det (E := _) (b := _) (by rfl) (by rfl) (by rfl) (fun w' hR hf => ?_) ?_ ?_; rotate_left 2; (· (go_simp; first | done | with_reducible rfl)); (· (simp only [Act.put, List.setIfInBounds_toArray, List.set_cons_zero, List.set_cons_succ]; first | done | rfl)))
                  (refine' Sq.det (E := _) (b := _) (by rfl) (by rfl) (by rfl) (fun w' hR hf => ?_) ?_ ?_; rotate_left 2; (· (have hc := ((HP4.out.below (below_undrew hR)).cell 0).trans HB0.out; go_simp; first | done | with_reducible rfl)); (· (simp only [Act.put, List.setIfInBounds_toArray, List.set_cons_zero, List.set_cons_succ]; first | done | rfl)))
                  (refine' Sq.det (E := _) (b := _) (by rfl) (by rfl) (by rfl) (fun w' hR hf => ?_) ?_ ?_; rotate_left 2; (· (go_simp; first | done | with_reducible rfl)); (· (simp only [Act.put, List.setIfInBounds_toArray, List.set_cons_zero, List.set_cons_succ]; first | done | rfl)))
                  (refine' Sq.det (E := _) (b := _) (by rfl) (by rfl) (by rfl) (fun w' hR hf => ?_) ?_ ?_; rotate_left 2; (· (have hc := ((HY4.out.below (below_undrew hR)).srow.cell i).trans HB1'.out; go_simp; first | done | with_reducible rfl)); (· (simp only [Act.put, List.setIfInBounds_toArray, List.set_cons_zero, List.set_cons_succ]; first | done | rfl)))
                  (refine' Sq.det (E := _) (b := _) (by rfl) (by rfl) (by rfl) (fun w' hR hf => ?_) ?_ ?_; rotate_left 2; (· (go_simp; first | done | with_reducible rfl)); (· (simp only [Act.put, List.setIfInBounds_toArray, List.set_cons_zero, List.set_cons_succ]; first | done | rfl)))
                  (refine' Sq.det (E := _) (b := _) (by rfl) (by rfl) (by rfl) (fun w' hR hf => ?_) ?_ ?_; rotate_left 2; (· (have hc := ((below_undrew hR).cell (p := ⟨ga, offa + k, none⟩) HGA.out).trans HCA.out; go_simp; first | done | with_reducible rfl)); (· (simp only [Act.put, List.setIfInBounds_toArray, List.set_cons_zero, List.set_cons_succ]; first | done | rfl)))
                  refine Sq.tail2 (by rfl) (by rfl) fun y5 hR _ => ?_
                  have HY5 := Lib.hid (HY4.out.below (below_undrew hR))
                  have HP5 := Lib.hid (HP4.out.below (below_undrew hR))
                  clear hR
                  go_wp2_with (first
                    | (go_at_call 17; (with_reducible refine (answer_at w1.heap.size g2 s (winL l said d2 m2) (idN i) x y5 HY5.out.win HY5.out.lenW HY5.out.gb HOKW.out).mono ?_); rintro e y6 ⟨he, hg6, g6, hw6, hgb6, hgn6⟩; rw [HAE.out] at he; subst he; rw [HAL.out] at hw6; have hbs := HY5.out.bs; have hid6 := ((HP5.out.grown hg6 (by have h1 := HY1.out.hB; simp; omega)).cell 0).trans HB0.out; have hsr := (HY5.out.srow.grown hg6 (by simp; omega)); have hsc := (hsr.cell i).trans HB1'.out; have hfz := hsr.frozen i; have hfin := HY5.out.answered HI1.out HI2.out HI4.out hg6 (by rw [← HKK.out]; exact hw6) hgb6 hgn6; rw [← HKK.out] at hfin; have HFIN := Lib.hid hfin; clear hbs hg6 hw6 hgb6 hgn6 hsr hfin))
                  go_roundw
                  case rel => exact ⟨d2, m2, nx, st + 1, said.set i (k + 1), g6, Ag2, cg2, by omega, rfl, rfl, by go_num, HN2.out, HFIN⟩
                  case measure => simp [intOf]; omega
            · rcases Nat.eq_zero_or_pos (outs (winL l said d2 m2)).length with hol | hol
              · have HOE : Hid (outs (winL l said d2 m2) = []) := Lib.hid (List.eq_nil_of_length_eq_zero hol)
                have HNE : Hid (d2 + m2 = l.length) := Lib.hid (by have := HN2.out; omega)
                go_wp2_with (first
                  | (go_at_call 13; (with_reducible refine (settled_at w1.heap.size g' s (winL l said d m) wr HR.out.win HR.out.lenW HR.out.gb).mono ?_); rintro e x1 ⟨vs, rfl, hos, hgs, gs, hws, hgbs, hgns⟩; obtain ⟨As, cs, rfl⟩ := own_slice hos; have HOS := Lib.hid hos; have HGS := Lib.hid hgs; have HWS := Lib.hid hws; have HGNS := Lib.hid hgns; have hbs1 := hgs.size; clear hos hgs hws hgns)
                  | ((with_reducible refine at_dst 68 ?_); refine wpList_app43 rfl (.tmp 65) (.tmp 67) rfl (w2.heap.size + 1) wr.heap.size d (settled (winL l said d m)).length (.slice Ag d cg) (.slice As (settled (winL l said d m)).length cs) ((gotL l d).flatMap resc) ((settled (winL l said d m)).flatMap resc) (by rfl) (by rfl) (HR.out.got.kept HGS.out (.inr fun e' => by have h1 := own_bd HR.out.got _ e'; have h2 := HR.out.bs; omega)) HOS.out (fun u hu => by obtain ⟨x, _, hx⟩ := List.mem_flatMap.1 hu; exact oneCell_resc x u hx) (by rw [HSL.out]; have h1 := HR.out.sim.nl; have h2 := HR.out.sim.n60; have h3 := HQM.out; omega) (by have h1 := HR.out.hB; omega) ?_; intro v2 x2 ho2 hg2 hv2; have hsx := HR.out.settle HQM.out HQG.out HQD.out HQS.out HSL.out HGS.out HWS.out hgbs HGNS.out ho2 hg2 hv2; obtain ⟨g2, hs2⟩ := hsx; rw [HD2.out, HM2.out] at hs2; obtain ⟨Ag2, cg2, rfl⟩ := own_slice hs2.got; have HS := Lib.hid hs2; clear ho2 hg2 hv2 hs2 HOS HGS HWS HGNS hbs1 hgbs)
                  | (go_at_call 14; (with_reducible refine (outstanding_any w1.heap.size g2 s (winL l said d2 m2) x2 HS.out.win HS.out.lenW).mono ?_); rintro e x3 ⟨vo3, rfl, ho3, hb3⟩; obtain ⟨A3, c3, rfl⟩ := own_slice ho3; have HS3 := Lib.hid (HS.out.below hb3); clear ho3 hb3)
                )
                go_roundw
                case rel => exact ⟨d2, m2, nx, st + 1, said, g2, Ag2, cg2, by omega, rfl, rfl, by go_num, HN2.out, Lib.hid (HS3.out.idle HOE.out HNE.out)⟩
                case measure => simp [intOf]; omega
              · obtain ⟨r, hr⟩ : ∃ r, r = p / 4 % (outs (winL l said d2 m2)).length := ⟨_, rfl⟩
                have hrl : r < (outs (winL l said d2 m2)).length := by rw [hr]; exact Nat.mod_lt _ hol
                have hmod : p / 4 % (outs (winL l said d2 m2)).length < (outs (winL l said d2 m2)).length := by exact Nat.mod_lt _ hol
                have hmodI : (p : Int) / 4 % ((outs (winL l said d2 m2)).length : Int) < ((outs (winL l said d2 m2)).length : Int) ∧ 0 ≤ (p : Int) / 4 % ((outs (winL l said d2 m2)).length : Int) := ⟨Int.emod_lt_of_pos _ (by omega), Int.emod_nonneg _ (by omega)⟩
                have HRR := Lib.hid hr
                clear hr
                have HRL2 := Lib.hid hrl
                obtain ⟨i, hi1, hi2, hi3, hi4⟩ := sim_out HSIM.out hrl
                have HOI := Lib.hid hi3
                have hil : i < l.length := by have := HN2.out; omega
                have hgd : l.getD i default = l[i] := by simp [hil]
                obtain ⟨hgl, offl, rfl, hcl⟩ := Rd.elem ofc_len HRL.out hil rfl
                rw [← hgd] at hcl
                obtain ⟨o, ho⟩ : ∃ o, o = l.getD i default := ⟨_, rfl⟩
                obtain ⟨k, hk⟩ : ∃ k, k = said.getD i 0 := ⟨_, rfl⟩
                obtain ⟨x, hx⟩ : ∃ x, x = (ansOf o).getD k 0 := ⟨_, rfl⟩
                have hsa := sim_answer HSIM.out hi1 hi2 hi4
                rw [← ho] at hcl
                have HO := Lib.hid ho
                have HKK := Lib.hid hk
                have HX := Lib.hid hx
                have HI4 := Lib.hid hi4
                have HI1 := Lib.hid hi1
                have HI2 := Lib.hid hi2
                rw [← ho, ← hk] at hi4
                rw [← ho, ← hk, ← hx] at hsa
                have HAE := Lib.hid hsa.1
                have HAL := Lib.hid hsa.2.1
                have HGL := Lib.hid hgl
                have HCL := Lib.hid hcl
                have HB0 : Hid ((idc (idN i)).toArray[0]? = some (.int .u8 i)) := Lib.hid (byte0 (by omega))
                have HB1' : Hid ((ints (said.map Int.ofNat)).toArray[i]? = some (.int .i64 k)) := Lib.hid (by rw [List.getElem?_toArray, ints_get said (by have := HSIM.out.len; omega), hk])
                have hk2 : k ≤ 1 := by have := (ansOf_len o).2; omega
                have hneq : ∀ w, (binOp .neq 37 (.agg (idc (idN i)).toArray) (.agg (idc (idN i)).toArray)).run Try.prog w = .ok (.bool false) w := fun w => by rw [run_neq_ids]; simp
                clear hi1 hi2 hi3 ho hk hx hsa hgl hcl hgd
                go_wp2_with (first
                  | (go_at_call 13; (with_reducible refine (settled_at w1.heap.size g' s (winL l said d m) wr HR.out.win HR.out.lenW HR.out.gb).mono ?_); rintro e x1 ⟨vs, rfl, hos, hgs, gs, hws, hgbs, hgns⟩; obtain ⟨As, cs, rfl⟩ := own_slice hos; have HOS := Lib.hid hos; have HGS := Lib.hid hgs; have HWS := Lib.hid hws; have HGNS := Lib.hid hgns; have hbs1 := hgs.size; clear hos hgs hws hgns)
                  | ((with_reducible refine at_dst 68 ?_); refine wpList_app43 rfl (.tmp 65) (.tmp 67) rfl (w2.heap.size + 1) wr.heap.size d (settled (winL l said d m)).length (.slice Ag d cg) (.slice As (settled (winL l said d m)).length cs) ((gotL l d).flatMap resc) ((settled (winL l said d m)).flatMap resc) (by rfl) (by rfl) (HR.out.got.kept HGS.out (.inr fun e' => by have h1 := own_bd HR.out.got _ e'; have h2 := HR.out.bs; omega)) HOS.out (fun u hu => by obtain ⟨x, _, hx⟩ := List.mem_flatMap.1 hu; exact oneCell_resc x u hx) (by rw [HSL.out]; have h1 := HR.out.sim.nl; have h2 := HR.out.sim.n60; have h3 := HQM.out; omega) (by have h1 := HR.out.hB; omega) ?_; intro v2 x2 ho2 hg2 hv2; have hsx := HR.out.settle HQM.out HQG.out HQD.out HQS.out HSL.out HGS.out HWS.out hgbs HGNS.out ho2 hg2 hv2; obtain ⟨g2, hs2⟩ := hsx; rw [HD2.out, HM2.out] at hs2; obtain ⟨Ag2, cg2, rfl⟩ := own_slice hs2.got; have HS := Lib.hid hs2; clear ho2 hg2 hv2 hs2 HOS HGS HWS HGNS hbs1 hgbs)
                  | (go_at_call 14; (with_reducible refine (outstanding_any w1.heap.size g2 s (winL l said d2 m2) x2 HS.out.win HS.out.lenW).mono ?_); rintro e y1 ⟨vo, rfl, hoo, hby⟩; obtain ⟨Ao, co, rfl⟩ := own_slice hoo; obtain ⟨go, hro, _, _⟩ := Rd.own hoo; obtain ⟨_, offo, rfl, hco⟩ := Rd.elem idc_len hro HRL2.out rfl; rw [HOI.out] at hco; have HCO := Lib.hid hco; have HY1 := Lib.hid (HS.out.below hby); clear hoo hby hro hco)
                  | ((with_reducible refine at_dst 106 ?_); refine wpList_load_cells rfl 37 _ rfl go (offo + (p / 4 % (outs (winL l said d2 m2)).length) * 32) (idc (idN i)) rfl _ Try.underlying37 rfl (sz_id _) (fun j u hu => by have h0 := HCO.out j u hu; rw [HRR.out] at h0; exact h0) ?_)
                  | ((with_reducible refine at_dst 16 ?_); refine wpList_al_id rfl rfl ?_; intro y2 hp2 hg2 hz2; have HP2 := Lib.hid hp2; have HG2 := Lib.hid hg2; clear hp2 hg2 hz2)
                  | ((with_reducible refine at_store 37 16 ?_); refine wpList_st_id rfl (.tmp 16) (.tmp 106) rfl y1.heap.size (idN i) HP2.out (by kernel_rfl) (by kernel_rfl) ?_; intro y3 hp3 hg3 hz3; have hb3 : Below y1.heap.size y1 y3 := HG2.out.toBelow.grown hg3 HG2.out.size (fun x hx => by simp at hx; omega); have HP3 := Lib.hid hp3; have HY3 := Lib.hid (HY1.out.below hb3); have hid3 := (hp3.cell 0).trans HB0.out; clear hp3 hg3 hz3 hb3)
                  | ((with_reducible refine at_dst 114 ?_); refine wpList_ld (by simp [Region.wanted, yielded, hil]) (.tmp 16) rfl y1.heap.size (idN i) (by kernel_rfl) HP3.out ?_)
                  | ((with_reducible refine at_dst 117 ?_); refine wpList_runW (by simp [Region.wanted, yielded, hil]) (.agg (idc (idN i)).toArray) (exec_id i (by omega) _ rfl) ?_)
                  | ((with_reducible refine at_dst 125 ?_); refine wpList_load_cells rfl 40 _ rfl gl (offl + i * 2) (ofc o) rfl _ Try.underlying40 rfl (size40' _) (fun j u hu => (HY3.out.bel.cell (p := ⟨gl, _, none⟩) HGL.out).trans (HCL.out j u hu)) ?_)
                  | (go_at_call 16; (with_reducible refine (final_any o y3).mono ?_); rintro e y4 ⟨va, rfl, hoa, hba⟩; obtain ⟨Aa, ca, rfl⟩ := own_slice hoa; obtain ⟨ga, hra, _, _⟩ := Rd.own hoa; obtain ⟨offa, rfl, hga, hca⟩ := rd_int' hra hi4 HX.out; have HGA := Lib.hid hga; have HCA := Lib.hid hca; have HY4 := Lib.hid (HY3.out.below hba); have HP4 := Lib.hid (HP3.out.below hba); clear hoa hra hba hga hca)
                )
                clear hid3 hneq
                refine wp_region_seq (nt := 182) (by kernel_rfl) [0,1,2,3,4,5,6,7,8,9] [10, 11] Rb Rb.refl Rb.trans [] (by kernel_rfl) (by simp) rfl (by kernel_rfl) (by simp) trivial ?_
                (refine' Sq.det (E := _) (b := _) (by rfl) (by rfl) (by rfl) (fun w' hR hf => ?_) ?_ ?_; rotate_left 2; (· (go_simp; first | done | with_reducible rfl)); (· (simp only [Act.put, List.setIfInBounds_toArray, List.set_cons_zero, List.set_cons_succ]; first | done | rfl)))
                (refine' Sq.det (E := _) (b := _) (by rfl) (by rfl) (by rfl) (fun w' hR hf => ?_) ?_ ?_; rotate_left 2; (· (refine exec_load_cells 37 _ y1.heap.size 0 (idc (idN i)) ?_ _ Try.underlying37 rfl (sz_id _) (fun j u hu => ?_); (· kernel_rfl); (rw [Nat.zero_add, (HP4.out.below (below_undrew hR)).cell, List.getElem?_toArray]; exact hu))); (· (simp only [Act.put, List.setIfInBounds_toArray, List.set_cons_zero, List.set_cons_succ]; first | done | rfl)))
                (refine' Sq.det (E := _) (b := _) (by rfl) (by rfl) (by rfl) (fun w' hR hf => ?_) ?_ ?_; rotate_left 2; (· (go_simp; first | done | with_reducible rfl)); (· (simp only [Act.put, List.setIfInBounds_toArray, List.set_cons_zero, List.set_cons_succ]; first | done | rfl)))
                (refine' Sq.det (E := _) (b := _) (by rfl) (by rfl) (by rfl) (fun w' hR hf => ?_) ?_ ?_; rotate_left 2; (· (go_simp; first | done | with_reducible rfl)); (· (simp only [Act.put, List.setIfInBounds_toArray, List.set_cons_zero, List.set_cons_succ]; first | done | rfl)))
                (refine' Sq.det (E := _) (b := _) (by rfl) (by rfl) (by rfl) (fun w' hR hf => ?_) ?_ ?_; rotate_left 2; (· (go_simp; first | done | with_reducible rfl)); (· (simp only [Act.put, List.setIfInBounds_toArray, List.set_cons_zero, List.set_cons_succ]; first | done | rfl)))
                (refine' Sq.det (E := _) (b := _) (by rfl) (by rfl) (by rfl) (fun w' hR hf => ?_) ?_ ?_; rotate_left 2; (· (have hc := ((HP4.out.below (below_undrew hR)).cell 0).trans HB0.out; go_simp; first | done | with_reducible rfl)); (· (simp only [Act.put, List.setIfInBounds_toArray, List.set_cons_zero, List.set_cons_succ]; first | done | rfl)))
                (refine' Sq.det (E := _) (b := _) (by rfl) (by rfl) (by rfl) (fun w' hR hf => ?_) ?_ ?_; rotate_left 2; (· (go_simp; first | done | with_reducible rfl)); (· (simp only [Act.put, List.setIfInBounds_toArray, List.set_cons_zero, List.set_cons_succ]; first | done | rfl)))
                (refine' Sq.det (E := _) (b := _) (by rfl) (by rfl) (by rfl) (fun w' hR hf => ?_) ?_ ?_; rotate_left 2; (· (have hc := ((HY4.out.below (below_undrew hR)).srow.cell i).trans HB1'.out; go_simp; first | done | with_reducible rfl)); (· (simp only [Act.put, List.setIfInBounds_toArray, List.set_cons_zero, List.set_cons_succ]; first | done | rfl)))
                (refine' Sq.det (E := _) (b := _) (by rfl) (by rfl) (by rfl) (fun w' hR hf => ?_) ?_ ?_; rotate_left 2; (· (go_simp; first | done | with_reducible rfl)); (· (simp only [Act.put, List.setIfInBounds_toArray, List.set_cons_zero, List.set_cons_succ]; first | done | rfl)))
                (refine' Sq.det (E := _) (b := _) (by rfl) (by rfl) (by rfl) (fun w' hR hf => ?_) ?_ ?_; rotate_left 2; (· (have hc := ((below_undrew hR).cell (p := ⟨ga, offa + k, none⟩) HGA.out).trans HCA.out; go_simp; first | done | with_reducible rfl)); (· (simp only [Act.put, List.setIfInBounds_toArray, List.set_cons_zero, List.set_cons_succ]; first | done | rfl)))
                refine Sq.tail2 (by rfl) (by rfl) fun y5 hR _ => ?_
                have HY5 := Lib.hid (HY4.out.below (below_undrew hR))
                have HP5 := Lib.hid (HP4.out.below (below_undrew hR))
                clear hR
                go_wp2_with (first
                  | (go_at_call 17; (with_reducible refine (answer_at w1.heap.size g2 s (winL l said d2 m2) (idN i) x y5 HY5.out.win HY5.out.lenW HY5.out.gb HOKW.out).mono ?_); rintro e y6 ⟨he, hg6, g6, hw6, hgb6, hgn6⟩; rw [HAE.out] at he; subst he; rw [HAL.out] at hw6; have hbs := HY5.out.bs; have hid6 := ((HP5.out.grown hg6 (by have h1 := HY1.out.hB; simp; omega)).cell 0).trans HB0.out; have hsr := (HY5.out.srow.grown hg6 (by simp; omega)); have hsc := (hsr.cell i).trans HB1'.out; have hfz := hsr.frozen i; have hfin := HY5.out.answered HI1.out HI2.out HI4.out hg6 (by rw [← HKK.out]; exact hw6) hgb6 hgn6; rw [← HKK.out] at hfin; have HFIN := Lib.hid hfin; clear hbs hg6 hw6 hgb6 hgn6 hsr hfin))
                go_roundw
                case rel => exact ⟨d2, m2, nx, st + 1, said.set i (k + 1), g6, Ag2, cg2, by omega, rfl, rfl, by go_num, HN2.out, HFIN⟩
                case measure => simp [intOf]; omega
          · have hm3 := rem3 p 2 hA1
            clear hA hA1
            obtain ⟨d2, rfl⟩ : ∃ d2, d2 = d := ⟨_, rfl⟩
            obtain ⟨m2, rfl⟩ : ∃ m2, m2 = m := ⟨_, rfl⟩
            obtain ⟨g2, rfl⟩ : ∃ g2, g2 = g' := ⟨_, rfl⟩
            obtain ⟨Ag2, rfl⟩ : ∃ A2, A2 = Ag := ⟨_, rfl⟩
            obtain ⟨cg2, rfl⟩ : ∃ c2, c2 = cg := ⟨_, rfl⟩
            obtain ⟨x2, rfl⟩ : ∃ x2, x2 = wr := ⟨_, rfl⟩
            have HS := HR
            have HN2 := HNX
            have HSIM : Hid (Sim l said d2 m2) := Lib.hid HR.out.sim
            have HOKW : Hid (OkL (winL l said d2 m2)) := Lib.hid ok_winL
            by_cases hn : nx < l.length
            · have HNL : Hid (d2 + m2 < l.length) := Lib.hid (by have := HN2.out; omega)
              have HAS : Hid (hasId (winL l said d2 m2) (idN nx) = false) := Lib.hid (by have := sim_has HSIM.out HNL.out; rwa [HN2.out] at this)
              by_cases hE : p % 2 = 0
              · have hm2 := rem2 p 0 hE
                clear hE
                cases hbz : busyB s (winL l said d2 m2) with
                | false =>
                  have HBZ := Lib.hid hbz
                  clear hbz
                  go_wp2_with (first
                    | (go_at_call 13; (with_reducible refine (settled_at w1.heap.size g' s (winL l said d m) wr HR.out.win HR.out.lenW HR.out.gb).mono ?_); rintro e x1 ⟨vs, rfl, hos, hgs, gs, hws, hgbs, hgns⟩; obtain ⟨As, cs, rfl⟩ := own_slice hos; have HOS := Lib.hid hos; have HGS := Lib.hid hgs; have HWS := Lib.hid hws; have HGNS := Lib.hid hgns; have hbs1 := hgs.size; clear hos hgs hws hgns)
                    | ((with_reducible refine at_dst 68 ?_); refine wpList_app43 rfl (.tmp 65) (.tmp 67) rfl (w2.heap.size + 1) wr.heap.size d (settled (winL l said d m)).length (.slice Ag d cg) (.slice As (settled (winL l said d m)).length cs) ((gotL l d).flatMap resc) ((settled (winL l said d m)).flatMap resc) (by rfl) (by rfl) (HR.out.got.kept HGS.out (.inr fun e' => by have h1 := own_bd HR.out.got _ e'; have h2 := HR.out.bs; omega)) HOS.out (fun u hu => by obtain ⟨x, _, hx⟩ := List.mem_flatMap.1 hu; exact oneCell_resc x u hx) (by rw [HSL.out]; have h1 := HR.out.sim.nl; have h2 := HR.out.sim.n60; have h3 := HQM.out; omega) (by have h1 := HR.out.hB; omega) ?_; intro v2 x2 ho2 hg2 hv2; have hsx := HR.out.settle HQM.out HQG.out HQD.out HQS.out HSL.out HGS.out HWS.out hgbs HGNS.out ho2 hg2 hv2; obtain ⟨g2, hs2⟩ := hsx; rw [HD2.out, HM2.out] at hs2; obtain ⟨Ag2, cg2, rfl⟩ := own_slice hs2.got; have HS := Lib.hid hs2; clear ho2 hg2 hv2 hs2 HOS HGS HWS HGNS hbs1 hgbs)
                    | ((with_reducible refine at_dst 88 ?_); refine wpList_runW (by simp [Region.wanted, yielded]) (.agg (idc (idN nx)).toArray) (exec_id nx (by omega) _ rfl) ?_)
                    | (go_at_call 15; (with_reducible refine (offer_ok w1.heap.size g2 s (winL l said d2 m2) (idN nx) 10 x2 HS.out.win HS.out.lenW HS.out.gb HZ10.out HAS.out HBZ.out).mono ?_); rintro e x4 ⟨rfl, hg4, g4, hw4, hgb4, hgn4⟩; rw [← HN2.out] at hw4; have hs4 := HS.out.offered HNL.out HBZ.out hg4 hw4 hgb4 hgn4; have HS4 := Lib.hid hs4; clear hg4 hw4 hgb4 hgn4 hs4)
                  )
                  go_roundw
                  case rel => exact ⟨d2, m2 + 1, nx + 1, st + 1, said, g4, Ag2, cg2, by omega, rfl, by go_num, by go_num, by have := HN2.out; omega, HS4⟩
                  case measure => simp [intOf]; omega
                | true =>
                  have HBZ := Lib.hid hbz
                  have hol : 0 < (outs (winL l said d2 m2)).length := by have h1 : s ≤ ((outs (winL l said d2 m2)).length : Int) := (by simpa [busyB] using hbz); have := HS1.out; omega
                  clear hbz
                  obtain ⟨r, hr⟩ : ∃ r, r = p / 4 % (outs (winL l said d2 m2)).length := ⟨_, rfl⟩
                  have hrl : r < (outs (winL l said d2 m2)).length := by rw [hr]; exact Nat.mod_lt _ hol
                  have hmod : p / 4 % (outs (winL l said d2 m2)).length < (outs (winL l said d2 m2)).length := by exact Nat.mod_lt _ hol
                  have hmodI : (p : Int) / 4 % ((outs (winL l said d2 m2)).length : Int) < ((outs (winL l said d2 m2)).length : Int) ∧ 0 ≤ (p : Int) / 4 % ((outs (winL l said d2 m2)).length : Int) := ⟨Int.emod_lt_of_pos _ (by omega), Int.emod_nonneg _ (by omega)⟩
                  have HRR := Lib.hid hr
                  clear hr
                  have HRL2 := Lib.hid hrl
                  obtain ⟨i, hi1, hi2, hi3, hi4⟩ := sim_out HSIM.out hrl
                  have HOI := Lib.hid hi3
                  have hil : i < l.length := by have := HN2.out; omega
                  have hgd : l.getD i default = l[i] := by simp [hil]
                  obtain ⟨hgl, offl, rfl, hcl⟩ := Rd.elem ofc_len HRL.out hil rfl
                  rw [← hgd] at hcl
                  obtain ⟨o, ho⟩ : ∃ o, o = l.getD i default := ⟨_, rfl⟩
                  obtain ⟨k, hk⟩ : ∃ k, k = said.getD i 0 := ⟨_, rfl⟩
                  obtain ⟨x, hx⟩ : ∃ x, x = (ansOf o).getD k 0 := ⟨_, rfl⟩
                  have hsa := sim_answer HSIM.out hi1 hi2 hi4
                  rw [← ho] at hcl
                  have HO := Lib.hid ho
                  have HKK := Lib.hid hk
                  have HX := Lib.hid hx
                  have HI4 := Lib.hid hi4
                  have HI1 := Lib.hid hi1
                  have HI2 := Lib.hid hi2
                  rw [← ho, ← hk] at hi4
                  rw [← ho, ← hk, ← hx] at hsa
                  have HAE := Lib.hid hsa.1
                  have HAL := Lib.hid hsa.2.1
                  have HGL := Lib.hid hgl
                  have HCL := Lib.hid hcl
                  have HB0 : Hid ((idc (idN i)).toArray[0]? = some (.int .u8 i)) := Lib.hid (byte0 (by omega))
                  have HB1' : Hid ((ints (said.map Int.ofNat)).toArray[i]? = some (.int .i64 k)) := Lib.hid (by rw [List.getElem?_toArray, ints_get said (by have := HSIM.out.len; omega), hk])
                  have hk2 : k ≤ 1 := by have := (ansOf_len o).2; omega
                  have hneq : ∀ w, (binOp .neq 37 (.agg (idc (idN i)).toArray) (.agg (idc (idN i)).toArray)).run Try.prog w = .ok (.bool false) w := fun w => by rw [run_neq_ids]; simp
                  clear hi1 hi2 hi3 ho hk hx hsa hgl hcl hgd
                  go_wp2_with (first
                    | (go_at_call 13; (with_reducible refine (settled_at w1.heap.size g' s (winL l said d m) wr HR.out.win HR.out.lenW HR.out.gb).mono ?_); rintro e x1 ⟨vs, rfl, hos, hgs, gs, hws, hgbs, hgns⟩; obtain ⟨As, cs, rfl⟩ := own_slice hos; have HOS := Lib.hid hos; have HGS := Lib.hid hgs; have HWS := Lib.hid hws; have HGNS := Lib.hid hgns; have hbs1 := hgs.size; clear hos hgs hws hgns)
                    | ((with_reducible refine at_dst 68 ?_); refine wpList_app43 rfl (.tmp 65) (.tmp 67) rfl (w2.heap.size + 1) wr.heap.size d (settled (winL l said d m)).length (.slice Ag d cg) (.slice As (settled (winL l said d m)).length cs) ((gotL l d).flatMap resc) ((settled (winL l said d m)).flatMap resc) (by rfl) (by rfl) (HR.out.got.kept HGS.out (.inr fun e' => by have h1 := own_bd HR.out.got _ e'; have h2 := HR.out.bs; omega)) HOS.out (fun u hu => by obtain ⟨x, _, hx⟩ := List.mem_flatMap.1 hu; exact oneCell_resc x u hx) (by rw [HSL.out]; have h1 := HR.out.sim.nl; have h2 := HR.out.sim.n60; have h3 := HQM.out; omega) (by have h1 := HR.out.hB; omega) ?_; intro v2 x2 ho2 hg2 hv2; have hsx := HR.out.settle HQM.out HQG.out HQD.out HQS.out HSL.out HGS.out HWS.out hgbs HGNS.out ho2 hg2 hv2; obtain ⟨g2, hs2⟩ := hsx; rw [HD2.out, HM2.out] at hs2; obtain ⟨Ag2, cg2, rfl⟩ := own_slice hs2.got; have HS := Lib.hid hs2; clear ho2 hg2 hv2 hs2 HOS HGS HWS HGNS hbs1 hgbs)
                    | ((with_reducible refine at_dst 88 ?_); refine wpList_runW (by simp [Region.wanted, yielded]) (.agg (idc (idN nx)).toArray) (exec_id nx (by omega) _ rfl) ?_)
                    | (go_at_call 15; (with_reducible refine (offer_busy w1.heap.size g2 s (winL l said d2 m2) (idN nx) 10 x2 HS.out.win HS.out.lenW HS.out.gb HZ10.out HAS.out HBZ.out).mono ?_); rintro e x3 ⟨rfl, hb3⟩; have HS3 := Lib.hid (HS.out.below hb3); clear hb3)
                    | (go_at_call 14; (with_reducible refine (outstanding_any w1.heap.size g2 s (winL l said d2 m2) x3 HS3.out.win HS3.out.lenW).mono ?_); rintro e y1 ⟨vo, rfl, hoo, hby⟩; obtain ⟨Ao, co, rfl⟩ := own_slice hoo; obtain ⟨go, hro, _, _⟩ := Rd.own hoo; obtain ⟨_, offo, rfl, hco⟩ := Rd.elem idc_len hro HRL2.out rfl; rw [HOI.out] at hco; have HCO := Lib.hid hco; have HY1 := Lib.hid (HS3.out.below hby); clear hoo hby hro hco)
                    | ((with_reducible refine at_dst 106 ?_); refine wpList_load_cells rfl 37 _ rfl go (offo + (p / 4 % (outs (winL l said d2 m2)).length) * 32) (idc (idN i)) rfl _ Try.underlying37 rfl (sz_id _) (fun j u hu => by have h0 := HCO.out j u hu; rw [HRR.out] at h0; exact h0) ?_)
                    | ((with_reducible refine at_dst 16 ?_); refine wpList_al_id rfl rfl ?_; intro y2 hp2 hg2 hz2; have HP2 := Lib.hid hp2; have HG2 := Lib.hid hg2; clear hp2 hg2 hz2)
                    | ((with_reducible refine at_store 37 16 ?_); refine wpList_st_id rfl (.tmp 16) (.tmp 106) rfl y1.heap.size (idN i) HP2.out (by kernel_rfl) (by kernel_rfl) ?_; intro y3 hp3 hg3 hz3; have hb3 : Below y1.heap.size y1 y3 := HG2.out.toBelow.grown hg3 HG2.out.size (fun x hx => by simp at hx; omega); have HP3 := Lib.hid hp3; have HY3 := Lib.hid (HY1.out.below hb3); have hid3 := (hp3.cell 0).trans HB0.out; clear hp3 hg3 hz3 hb3)
                    | ((with_reducible refine at_dst 114 ?_); refine wpList_ld (by simp [Region.wanted, yielded, hil]) (.tmp 16) rfl y1.heap.size (idN i) (by kernel_rfl) HP3.out ?_)
                    | ((with_reducible refine at_dst 117 ?_); refine wpList_runW (by simp [Region.wanted, yielded, hil]) (.agg (idc (idN i)).toArray) (exec_id i (by omega) _ rfl) ?_)
                    | ((with_reducible refine at_dst 125 ?_); refine wpList_load_cells rfl 40 _ rfl gl (offl + i * 2) (ofc o) rfl _ Try.underlying40 rfl (size40' _) (fun j u hu => (HY3.out.bel.cell (p := ⟨gl, _, none⟩) HGL.out).trans (HCL.out j u hu)) ?_)
                    | (go_at_call 16; (with_reducible refine (final_any o y3).mono ?_); rintro e y4 ⟨va, rfl, hoa, hba⟩; obtain ⟨Aa, ca, rfl⟩ := own_slice hoa; obtain ⟨ga, hra, _, _⟩ := Rd.own hoa; obtain ⟨offa, rfl, hga, hca⟩ := rd_int' hra hi4 HX.out; have HGA := Lib.hid hga; have HCA := Lib.hid hca; have HY4 := Lib.hid (HY3.out.below hba); have HP4 := Lib.hid (HP3.out.below hba); clear hoa hra hba hga hca)
                  )
                  clear hid3 hneq
                  refine wp_region_seq (nt := 182) (by kernel_rfl) [0,1,2,3,4,5,6,7,8,9] [10, 11] Rb Rb.refl Rb.trans [] (by kernel_rfl) (by simp) rfl (by kernel_rfl) (by simp) trivial ?_
                  (refine' Sq.det (E := _) (b := _) (by rfl) (by rfl) (by rfl) (fun w' hR hf => ?_) ?_ ?_; rotate_left 2; (· (go_simp; first | done | with_reducible rfl)); (· (simp only [Act.put, List.setIfInBounds_toArray, List.set_cons_zero, List.set_cons_succ]; first | done | rfl)))
                  (refine' Sq.det (E := _) (b := _) (by rfl) (by rfl) (by rfl) (fun w' hR hf => ?_) ?_ ?_; rotate_left 2; (· (refine exec_load_cells 37 _ y1.heap.size 0 (idc (idN i)) ?_ _ Try.underlying37 rfl (sz_id _) (fun j u hu => ?_); (· kernel_rfl); (rw [Nat.zero_add, (HP4.out.below (below_undrew hR)).cell, List.getElem?_toArray]; exact hu))); (· (simp only [Act.put, List.setIfInBounds_toArray, List.set_cons_zero, List.set_cons_succ]; first | done | rfl)))
                  (refine' Sq.det (E := _) (b := _) (by rfl) (by rfl) (by rfl) (fun w' hR hf => ?_) ?_ ?_; rotate_left 2; (· (go_simp; first | done | with_reducible rfl)); (· (simp only [Act.put, List.setIfInBounds_toArray, List.set_cons_zero, List.set_cons_succ]; first | done | rfl)))
                  (refine' Sq.det (E := _) (b := _) (by rfl) (by rfl) (by rfl) (fun w' hR hf => ?_) ?_ ?_; rotate_left 2; (· (go_simp; first | done | with_reducible rfl)); (· (simp only [Act.put, List.setIfInBounds_toArray, List.set_cons_zero, List.set_cons_succ]; first | done | rfl)))
                  (refine' Sq.det (E := _) (b := _) (by rfl) (by rfl) (by rfl) (fun w' hR hf => ?_) ?_ ?_; rotate_left 2; (· (go_simp; first | done | with_reducible rfl)); (· (simp only [Act.put, List.setIfInBounds_toArray, List.set_cons_zero, List.set_cons_succ]; first | done | rfl)))
                  (refine' Sq.det (E := _) (b := _) (by rfl) (by rfl) (by rfl) (fun w' hR hf => ?_) ?_ ?_; rotate_left 2; (· (have hc := ((HP4.out.below (below_undrew hR)).cell 0).trans HB0.out; go_simp; first | done | with_reducible rfl)); (· (simp only [Act.put, List.setIfInBounds_toArray, List.set_cons_zero, List.set_cons_succ]; first | done | rfl)))
                  (refine' Sq.det (E := _) (b := _) (by rfl) (by rfl) (by rfl) (fun w' hR hf => ?_) ?_ ?_; rotate_left 2; (· (go_simp; first | done | with_reducible rfl)); (· (simp only [Act.put, List.setIfInBounds_toArray, List.set_cons_zero, List.set_cons_succ]; first | done | rfl)))
                  (refine' Sq.det (E := _) (b := _) (by rfl) (by rfl) (by rfl) (fun w' hR hf => ?_) ?_ ?_; rotate_left 2; (· (have hc := ((HY4.out.below (below_undrew hR)).srow.cell i).trans HB1'.out; go_simp; first | done | with_reducible rfl)); (· (simp only [Act.put, List.setIfInBounds_toArray, List.set_cons_zero, List.set_cons_succ]; first | done | rfl)))
                  (refine' Sq.det (E := _) (b := _) (by rfl) (by rfl) (by rfl) (fun w' hR hf => ?_) ?_ ?_; rotate_left 2; (· (go_simp; first | done | with_reducible rfl)); (· (simp only [Act.put, List.setIfInBounds_toArray, List.set_cons_zero, List.set_cons_succ]; first | done | rfl)))
                  (refine' Sq.det (E := _) (b := _) (by rfl) (by rfl) (by rfl) (fun w' hR hf => ?_) ?_ ?_; rotate_left 2; (· (have hc := ((below_undrew hR).cell (p := ⟨ga, offa + k, none⟩) HGA.out).trans HCA.out; go_simp; first | done | with_reducible rfl)); (· (simp only [Act.put, List.setIfInBounds_toArray, List.set_cons_zero, List.set_cons_succ]; first | done | rfl)))
                  refine Sq.tail2 (by rfl) (by rfl) fun y5 hR _ => ?_
                  have HY5 := Lib.hid (HY4.out.below (below_undrew hR))
                  have HP5 := Lib.hid (HP4.out.below (below_undrew hR))
                  clear hR
                  go_wp2_with (first
                    | (go_at_call 17; (with_reducible refine (answer_at w1.heap.size g2 s (winL l said d2 m2) (idN i) x y5 HY5.out.win HY5.out.lenW HY5.out.gb HOKW.out).mono ?_); rintro e y6 ⟨he, hg6, g6, hw6, hgb6, hgn6⟩; rw [HAE.out] at he; subst he; rw [HAL.out] at hw6; have hbs := HY5.out.bs; have hid6 := ((HP5.out.grown hg6 (by have h1 := HY1.out.hB; simp; omega)).cell 0).trans HB0.out; have hsr := (HY5.out.srow.grown hg6 (by simp; omega)); have hsc := (hsr.cell i).trans HB1'.out; have hfz := hsr.frozen i; have hfin := HY5.out.answered HI1.out HI2.out HI4.out hg6 (by rw [← HKK.out]; exact hw6) hgb6 hgn6; rw [← HKK.out] at hfin; have HFIN := Lib.hid hfin; clear hbs hg6 hw6 hgb6 hgn6 hsr hfin))
                  go_roundw
                  case rel => exact ⟨d2, m2, nx, st + 1, said.set i (k + 1), g6, Ag2, cg2, by omega, rfl, rfl, by go_num, HN2.out, HFIN⟩
                  case measure => simp [intOf]; omega
              · have hm2 := rem2 p 1 (by omega)
                clear hE
                rcases Nat.eq_zero_or_pos (outs (winL l said d2 m2)).length with hol | hol
                · have hbz : busyB s (winL l said d2 m2) = false := by have := HS1.out; simp [busyB]; omega
                  have HBZ := Lib.hid hbz
                  clear hbz
                  go_wp2_with (first
                    | (go_at_call 13; (with_reducible refine (settled_at w1.heap.size g' s (winL l said d m) wr HR.out.win HR.out.lenW HR.out.gb).mono ?_); rintro e x1 ⟨vs, rfl, hos, hgs, gs, hws, hgbs, hgns⟩; obtain ⟨As, cs, rfl⟩ := own_slice hos; have HOS := Lib.hid hos; have HGS := Lib.hid hgs; have HWS := Lib.hid hws; have HGNS := Lib.hid hgns; have hbs1 := hgs.size; clear hos hgs hws hgns)
                    | ((with_reducible refine at_dst 68 ?_); refine wpList_app43 rfl (.tmp 65) (.tmp 67) rfl (w2.heap.size + 1) wr.heap.size d (settled (winL l said d m)).length (.slice Ag d cg) (.slice As (settled (winL l said d m)).length cs) ((gotL l d).flatMap resc) ((settled (winL l said d m)).flatMap resc) (by rfl) (by rfl) (HR.out.got.kept HGS.out (.inr fun e' => by have h1 := own_bd HR.out.got _ e'; have h2 := HR.out.bs; omega)) HOS.out (fun u hu => by obtain ⟨x, _, hx⟩ := List.mem_flatMap.1 hu; exact oneCell_resc x u hx) (by rw [HSL.out]; have h1 := HR.out.sim.nl; have h2 := HR.out.sim.n60; have h3 := HQM.out; omega) (by have h1 := HR.out.hB; omega) ?_; intro v2 x2 ho2 hg2 hv2; have hsx := HR.out.settle HQM.out HQG.out HQD.out HQS.out HSL.out HGS.out HWS.out hgbs HGNS.out ho2 hg2 hv2; obtain ⟨g2, hs2⟩ := hsx; rw [HD2.out, HM2.out] at hs2; obtain ⟨Ag2, cg2, rfl⟩ := own_slice hs2.got; have HS := Lib.hid hs2; clear ho2 hg2 hv2 hs2 HOS HGS HWS HGNS hbs1 hgbs)
                    | (go_at_call 14; (with_reducible refine (outstanding_any w1.heap.size g2 s (winL l said d2 m2) x2 HS.out.win HS.out.lenW).mono ?_); rintro e x3 ⟨vo3, rfl, ho3, hb3⟩; obtain ⟨A3, c3, rfl⟩ := own_slice ho3; have HS3 := Lib.hid (HS.out.below hb3); clear ho3 hb3)
                    | ((with_reducible refine at_dst 88 ?_); refine wpList_runW (by simp [Region.wanted, yielded]) (.agg (idc (idN nx)).toArray) (exec_id nx (by omega) _ rfl) ?_)
                    | (go_at_call 15; (with_reducible refine (offer_ok w1.heap.size g2 s (winL l said d2 m2) (idN nx) 10 x3 HS3.out.win HS3.out.lenW HS3.out.gb HZ10.out HAS.out HBZ.out).mono ?_); rintro e x4 ⟨rfl, hg4, g4, hw4, hgb4, hgn4⟩; rw [← HN2.out] at hw4; have hs4 := HS3.out.offered HNL.out HBZ.out hg4 hw4 hgb4 hgn4; have HS4 := Lib.hid hs4; clear hg4 hw4 hgb4 hgn4 hs4)
                  )
                  go_roundw
                  case rel => exact ⟨d2, m2 + 1, nx + 1, st + 1, said, g4, Ag2, cg2, by omega, rfl, by go_num, by go_num, by have := HN2.out; omega, HS4⟩
                  case measure => simp [intOf]; omega
                · have hob : ¬ outs (winL l said d2 m2) = [] := fun h => by rw [h] at hol; simp at hol
                  obtain ⟨r, hr⟩ : ∃ r, r = p / 4 % (outs (winL l said d2 m2)).length := ⟨_, rfl⟩
                  have hrl : r < (outs (winL l said d2 m2)).length := by rw [hr]; exact Nat.mod_lt _ hol
                  have hmod : p / 4 % (outs (winL l said d2 m2)).length < (outs (winL l said d2 m2)).length := by exact Nat.mod_lt _ hol
                  have hmodI : (p : Int) / 4 % ((outs (winL l said d2 m2)).length : Int) < ((outs (winL l said d2 m2)).length : Int) ∧ 0 ≤ (p : Int) / 4 % ((outs (winL l said d2 m2)).length : Int) := ⟨Int.emod_lt_of_pos _ (by omega), Int.emod_nonneg _ (by omega)⟩
                  have HRR := Lib.hid hr
                  clear hr
                  have HRL2 := Lib.hid hrl
                  obtain ⟨i, hi1, hi2, hi3, hi4⟩ := sim_out HSIM.out hrl
                  have HOI := Lib.hid hi3
                  have hil : i < l.length := by have := HN2.out; omega
                  have hgd : l.getD i default = l[i] := by simp [hil]
                  obtain ⟨hgl, offl, rfl, hcl⟩ := Rd.elem ofc_len HRL.out hil rfl
                  rw [← hgd] at hcl
                  obtain ⟨o, ho⟩ : ∃ o, o = l.getD i default := ⟨_, rfl⟩
                  obtain ⟨k, hk⟩ : ∃ k, k = said.getD i 0 := ⟨_, rfl⟩
                  obtain ⟨x, hx⟩ : ∃ x, x = (ansOf o).getD k 0 := ⟨_, rfl⟩
                  have hsa := sim_answer HSIM.out hi1 hi2 hi4
                  rw [← ho] at hcl
                  have HO := Lib.hid ho
                  have HKK := Lib.hid hk
                  have HX := Lib.hid hx
                  have HI4 := Lib.hid hi4
                  have HI1 := Lib.hid hi1
                  have HI2 := Lib.hid hi2
                  rw [← ho, ← hk] at hi4
                  rw [← ho, ← hk, ← hx] at hsa
                  have HAE := Lib.hid hsa.1
                  have HAL := Lib.hid hsa.2.1
                  have HGL := Lib.hid hgl
                  have HCL := Lib.hid hcl
                  have HB0 : Hid ((idc (idN i)).toArray[0]? = some (.int .u8 i)) := Lib.hid (byte0 (by omega))
                  have HB1' : Hid ((ints (said.map Int.ofNat)).toArray[i]? = some (.int .i64 k)) := Lib.hid (by rw [List.getElem?_toArray, ints_get said (by have := HSIM.out.len; omega), hk])
                  have hk2 : k ≤ 1 := by have := (ansOf_len o).2; omega
                  have hneq : ∀ w, (binOp .neq 37 (.agg (idc (idN i)).toArray) (.agg (idc (idN i)).toArray)).run Try.prog w = .ok (.bool false) w := fun w => by rw [run_neq_ids]; simp
                  clear hi1 hi2 hi3 ho hk hx hsa hgl hcl hgd
                  go_wp2_with (first
                    | (go_at_call 13; (with_reducible refine (settled_at w1.heap.size g' s (winL l said d m) wr HR.out.win HR.out.lenW HR.out.gb).mono ?_); rintro e x1 ⟨vs, rfl, hos, hgs, gs, hws, hgbs, hgns⟩; obtain ⟨As, cs, rfl⟩ := own_slice hos; have HOS := Lib.hid hos; have HGS := Lib.hid hgs; have HWS := Lib.hid hws; have HGNS := Lib.hid hgns; have hbs1 := hgs.size; clear hos hgs hws hgns)
                    | ((with_reducible refine at_dst 68 ?_); refine wpList_app43 rfl (.tmp 65) (.tmp 67) rfl (w2.heap.size + 1) wr.heap.size d (settled (winL l said d m)).length (.slice Ag d cg) (.slice As (settled (winL l said d m)).length cs) ((gotL l d).flatMap resc) ((settled (winL l said d m)).flatMap resc) (by rfl) (by rfl) (HR.out.got.kept HGS.out (.inr fun e' => by have h1 := own_bd HR.out.got _ e'; have h2 := HR.out.bs; omega)) HOS.out (fun u hu => by obtain ⟨x, _, hx⟩ := List.mem_flatMap.1 hu; exact oneCell_resc x u hx) (by rw [HSL.out]; have h1 := HR.out.sim.nl; have h2 := HR.out.sim.n60; have h3 := HQM.out; omega) (by have h1 := HR.out.hB; omega) ?_; intro v2 x2 ho2 hg2 hv2; have hsx := HR.out.settle HQM.out HQG.out HQD.out HQS.out HSL.out HGS.out HWS.out hgbs HGNS.out ho2 hg2 hv2; obtain ⟨g2, hs2⟩ := hsx; rw [HD2.out, HM2.out] at hs2; obtain ⟨Ag2, cg2, rfl⟩ := own_slice hs2.got; have HS := Lib.hid hs2; clear ho2 hg2 hv2 hs2 HOS HGS HWS HGNS hbs1 hgbs)
                    | (go_at_call 14; (with_reducible refine (outstanding_any w1.heap.size g2 s (winL l said d2 m2) x2 HS.out.win HS.out.lenW).mono ?_); rintro e x3 ⟨vo3, rfl, ho3, hb3⟩; obtain ⟨A3, c3, rfl⟩ := own_slice ho3; have HS3 := Lib.hid (HS.out.below hb3); clear ho3 hb3)
                    | (go_at_call 14; (with_reducible refine (outstanding_any w1.heap.size g2 s (winL l said d2 m2) x3 HS3.out.win HS3.out.lenW).mono ?_); rintro e y1 ⟨vo, rfl, hoo, hby⟩; obtain ⟨Ao, co, rfl⟩ := own_slice hoo; obtain ⟨go, hro, _, _⟩ := Rd.own hoo; obtain ⟨_, offo, rfl, hco⟩ := Rd.elem idc_len hro HRL2.out rfl; rw [HOI.out] at hco; have HCO := Lib.hid hco; have HY1 := Lib.hid (HS3.out.below hby); clear hoo hby hro hco)
                    | ((with_reducible refine at_dst 106 ?_); refine wpList_load_cells rfl 37 _ rfl go (offo + (p / 4 % (outs (winL l said d2 m2)).length) * 32) (idc (idN i)) rfl _ Try.underlying37 rfl (sz_id _) (fun j u hu => by have h0 := HCO.out j u hu; rw [HRR.out] at h0; exact h0) ?_)
                    | ((with_reducible refine at_dst 16 ?_); refine wpList_al_id rfl rfl ?_; intro y2 hp2 hg2 hz2; have HP2 := Lib.hid hp2; have HG2 := Lib.hid hg2; clear hp2 hg2 hz2)
                    | ((with_reducible refine at_store 37 16 ?_); refine wpList_st_id rfl (.tmp 16) (.tmp 106) rfl y1.heap.size (idN i) HP2.out (by kernel_rfl) (by kernel_rfl) ?_; intro y3 hp3 hg3 hz3; have hb3 : Below y1.heap.size y1 y3 := HG2.out.toBelow.grown hg3 HG2.out.size (fun x hx => by simp at hx; omega); have HP3 := Lib.hid hp3; have HY3 := Lib.hid (HY1.out.below hb3); have hid3 := (hp3.cell 0).trans HB0.out; clear hp3 hg3 hz3 hb3)
                    | ((with_reducible refine at_dst 114 ?_); refine wpList_ld (by simp [Region.wanted, yielded, hil]) (.tmp 16) rfl y1.heap.size (idN i) (by kernel_rfl) HP3.out ?_)
                    | ((with_reducible refine at_dst 117 ?_); refine wpList_runW (by simp [Region.wanted, yielded, hil]) (.agg (idc (idN i)).toArray) (exec_id i (by omega) _ rfl) ?_)
                    | ((with_reducible refine at_dst 125 ?_); refine wpList_load_cells rfl 40 _ rfl gl (offl + i * 2) (ofc o) rfl _ Try.underlying40 rfl (size40' _) (fun j u hu => (HY3.out.bel.cell (p := ⟨gl, _, none⟩) HGL.out).trans (HCL.out j u hu)) ?_)
                    | (go_at_call 16; (with_reducible refine (final_any o y3).mono ?_); rintro e y4 ⟨va, rfl, hoa, hba⟩; obtain ⟨Aa, ca, rfl⟩ := own_slice hoa; obtain ⟨ga, hra, _, _⟩ := Rd.own hoa; obtain ⟨offa, rfl, hga, hca⟩ := rd_int' hra hi4 HX.out; have HGA := Lib.hid hga; have HCA := Lib.hid hca; have HY4 := Lib.hid (HY3.out.below hba); have HP4 := Lib.hid (HP3.out.below hba); clear hoa hra hba hga hca)
                  )
                  clear hid3 hneq
                  refine wp_region_seq (nt := 182) (by kernel_rfl) [0,1,2,3,4,5,6,7,8,9] [10, 11] Rb Rb.refl Rb.trans [] (by kernel_rfl) (by simp) rfl (by kernel_rfl) (by simp) trivial ?_
                  (refine' Sq.det (E := _) (b := _) (by rfl) (by rfl) (by rfl) (fun w' hR hf => ?_) ?_ ?_; rotate_left 2; (· (go_simp; first | done | with_reducible rfl)); (· (simp only [Act.put, List.setIfInBounds_toArray, List.set_cons_zero, List.set_cons_succ]; first | done | rfl)))
                  (refine' Sq.det (E := _) (b := _) (by rfl) (by rfl) (by rfl) (fun w' hR hf => ?_) ?_ ?_; rotate_left 2; (· (refine exec_load_cells 37 _ y1.heap.size 0 (idc (idN i)) ?_ _ Try.underlying37 rfl (sz_id _) (fun j u hu => ?_); (· kernel_rfl); (rw [Nat.zero_add, (HP4.out.below (below_undrew hR)).cell, List.getElem?_toArray]; exact hu))); (· (simp only [Act.put, List.setIfInBounds_toArray, List.set_cons_zero, List.set_cons_succ]; first | done | rfl)))
                  (refine' Sq.det (E := _) (b := _) (by rfl) (by rfl) (by rfl) (fun w' hR hf => ?_) ?_ ?_; rotate_left 2; (· (go_simp; first | done | with_reducible rfl)); (· (simp only [Act.put, List.setIfInBounds_toArray, List.set_cons_zero, List.set_cons_succ]; first | done | rfl)))
                  (refine' Sq.det (E := _) (b := _) (by rfl) (by rfl) (by rfl) (fun w' hR hf => ?_) ?_ ?_; rotate_left 2; (· (go_simp; first | done | with_reducible rfl)); (· (simp only [Act.put, List.setIfInBounds_toArray, List.set_cons_zero, List.set_cons_succ]; first | done | rfl)))
                  (refine' Sq.det (E := _) (b := _) (by rfl) (by rfl) (by rfl) (fun w' hR hf => ?_) ?_ ?_; rotate_left 2; (· (go_simp; first | done | with_reducible rfl)); (· (simp only [Act.put, List.setIfInBounds_toArray, List.set_cons_zero, List.set_cons_succ]; first | done | rfl)))
                  (refine' Sq.det (E := _) (b := _) (by rfl) (by rfl) (by rfl) (fun w' hR hf => ?_) ?_ ?_; rotate_left 2; (· (have hc := ((HP4.out.below (below_undrew hR)).cell 0).trans HB0.out; go_simp; first | done | with_reducible rfl)); (· (simp only [Act.put, List.setIfInBounds_toArray, List.set_cons_zero, List.set_cons_succ]; first | done | rfl)))
                  (refine' Sq.det (E := _) (b := _) (by rfl) (by rfl) (by rfl) (fun w' hR hf => ?_) ?_ ?_; rotate_left 2; (· (go_simp; first | done | with_reducible rfl)); (· (simp only [Act.put, List.setIfInBounds_toArray, List.set_cons_zero, List.set_cons_succ]; first | done | rfl)))
                  (refine' Sq.det (E := _) (b := _) (by rfl) (by rfl) (by rfl) (fun w' hR hf => ?_) ?_ ?_; rotate_left 2; (· (have hc := ((HY4.out.below (below_undrew hR)).srow.cell i).trans HB1'.out; go_simp; first | done | with_reducible rfl)); (· (simp only [Act.put, List.setIfInBounds_toArray, List.set_cons_zero, List.set_cons_succ]; first | done | rfl)))
                  (refine' Sq.det (E := _) (b := _) (by rfl) (by rfl) (by rfl) (fun w' hR hf => ?_) ?_ ?_; rotate_left 2; (· (go_simp; first | done | with_reducible rfl)); (· (simp only [Act.put, List.setIfInBounds_toArray, List.set_cons_zero, List.set_cons_succ]; first | done | rfl)))
                  (refine' Sq.det (E := _) (b := _) (by rfl) (by rfl) (by rfl) (fun w' hR hf => ?_) ?_ ?_; rotate_left 2; (· (have hc := ((below_undrew hR).cell (p := ⟨ga, offa + k, none⟩) HGA.out).trans HCA.out; go_simp; first | done | with_reducible rfl)); (· (simp only [Act.put, List.setIfInBounds_toArray, List.set_cons_zero, List.set_cons_succ]; first | done | rfl)))
                  refine Sq.tail2 (by rfl) (by rfl) fun y5 hR _ => ?_
                  have HY5 := Lib.hid (HY4.out.below (below_undrew hR))
                  have HP5 := Lib.hid (HP4.out.below (below_undrew hR))
                  clear hR
                  go_wp2_with (first
                    | (go_at_call 17; (with_reducible refine (answer_at w1.heap.size g2 s (winL l said d2 m2) (idN i) x y5 HY5.out.win HY5.out.lenW HY5.out.gb HOKW.out).mono ?_); rintro e y6 ⟨he, hg6, g6, hw6, hgb6, hgn6⟩; rw [HAE.out] at he; subst he; rw [HAL.out] at hw6; have hbs := HY5.out.bs; have hid6 := ((HP5.out.grown hg6 (by have h1 := HY1.out.hB; simp; omega)).cell 0).trans HB0.out; have hsr := (HY5.out.srow.grown hg6 (by simp; omega)); have hsc := (hsr.cell i).trans HB1'.out; have hfz := hsr.frozen i; have hfin := HY5.out.answered HI1.out HI2.out HI4.out hg6 (by rw [← HKK.out]; exact hw6) hgb6 hgn6; rw [← HKK.out] at hfin; have HFIN := Lib.hid hfin; clear hbs hg6 hw6 hgb6 hgn6 hsr hfin))
                  go_roundw
                  case rel => exact ⟨d2, m2, nx, st + 1, said.set i (k + 1), g6, Ag2, cg2, by omega, rfl, rfl, by go_num, HN2.out, HFIN⟩
                  case measure => simp [intOf]; omega
            · rcases Nat.eq_zero_or_pos (outs (winL l said d2 m2)).length with hol | hol
              · have HOE : Hid (outs (winL l said d2 m2) = []) := Lib.hid (List.eq_nil_of_length_eq_zero hol)
                have HNE : Hid (d2 + m2 = l.length) := Lib.hid (by have := HN2.out; omega)
                go_wp2_with (first
                  | (go_at_call 13; (with_reducible refine (settled_at w1.heap.size g' s (winL l said d m) wr HR.out.win HR.out.lenW HR.out.gb).mono ?_); rintro e x1 ⟨vs, rfl, hos, hgs, gs, hws, hgbs, hgns⟩; obtain ⟨As, cs, rfl⟩ := own_slice hos; have HOS := Lib.hid hos; have HGS := Lib.hid hgs; have HWS := Lib.hid hws; have HGNS := Lib.hid hgns; have hbs1 := hgs.size; clear hos hgs hws hgns)
                  | ((with_reducible refine at_dst 68 ?_); refine wpList_app43 rfl (.tmp 65) (.tmp 67) rfl (w2.heap.size + 1) wr.heap.size d (settled (winL l said d m)).length (.slice Ag d cg) (.slice As (settled (winL l said d m)).length cs) ((gotL l d).flatMap resc) ((settled (winL l said d m)).flatMap resc) (by rfl) (by rfl) (HR.out.got.kept HGS.out (.inr fun e' => by have h1 := own_bd HR.out.got _ e'; have h2 := HR.out.bs; omega)) HOS.out (fun u hu => by obtain ⟨x, _, hx⟩ := List.mem_flatMap.1 hu; exact oneCell_resc x u hx) (by rw [HSL.out]; have h1 := HR.out.sim.nl; have h2 := HR.out.sim.n60; have h3 := HQM.out; omega) (by have h1 := HR.out.hB; omega) ?_; intro v2 x2 ho2 hg2 hv2; have hsx := HR.out.settle HQM.out HQG.out HQD.out HQS.out HSL.out HGS.out HWS.out hgbs HGNS.out ho2 hg2 hv2; obtain ⟨g2, hs2⟩ := hsx; rw [HD2.out, HM2.out] at hs2; obtain ⟨Ag2, cg2, rfl⟩ := own_slice hs2.got; have HS := Lib.hid hs2; clear ho2 hg2 hv2 hs2 HOS HGS HWS HGNS hbs1 hgbs)
                  | (go_at_call 14; (with_reducible refine (outstanding_any w1.heap.size g2 s (winL l said d2 m2) x2 HS.out.win HS.out.lenW).mono ?_); rintro e x3 ⟨vo3, rfl, ho3, hb3⟩; obtain ⟨A3, c3, rfl⟩ := own_slice ho3; have HS3 := Lib.hid (HS.out.below hb3); clear ho3 hb3)
                )
                go_roundw
                case rel => exact ⟨d2, m2, nx, st + 1, said, g2, Ag2, cg2, by omega, rfl, rfl, by go_num, HN2.out, Lib.hid (HS3.out.idle HOE.out HNE.out)⟩
                case measure => simp [intOf]; omega
              · obtain ⟨r, hr⟩ : ∃ r, r = p / 4 % (outs (winL l said d2 m2)).length := ⟨_, rfl⟩
                have hrl : r < (outs (winL l said d2 m2)).length := by rw [hr]; exact Nat.mod_lt _ hol
                have hmod : p / 4 % (outs (winL l said d2 m2)).length < (outs (winL l said d2 m2)).length := by exact Nat.mod_lt _ hol
                have hmodI : (p : Int) / 4 % ((outs (winL l said d2 m2)).length : Int) < ((outs (winL l said d2 m2)).length : Int) ∧ 0 ≤ (p : Int) / 4 % ((outs (winL l said d2 m2)).length : Int) := ⟨Int.emod_lt_of_pos _ (by omega), Int.emod_nonneg _ (by omega)⟩
                have HRR := Lib.hid hr
                clear hr
                have HRL2 := Lib.hid hrl
                obtain ⟨i, hi1, hi2, hi3, hi4⟩ := sim_out HSIM.out hrl
                have HOI := Lib.hid hi3
                have hil : i < l.length := by have := HN2.out; omega
                have hgd : l.getD i default = l[i] := by simp [hil]
                obtain ⟨hgl, offl, rfl, hcl⟩ := Rd.elem ofc_len HRL.out hil rfl
                rw [← hgd] at hcl
                obtain ⟨o, ho⟩ : ∃ o, o = l.getD i default := ⟨_, rfl⟩
                obtain ⟨k, hk⟩ : ∃ k, k = said.getD i 0 := ⟨_, rfl⟩
                obtain ⟨x, hx⟩ : ∃ x, x = (ansOf o).getD k 0 := ⟨_, rfl⟩
                have hsa := sim_answer HSIM.out hi1 hi2 hi4
                rw [← ho] at hcl
                have HO := Lib.hid ho
                have HKK := Lib.hid hk
                have HX := Lib.hid hx
                have HI4 := Lib.hid hi4
                have HI1 := Lib.hid hi1
                have HI2 := Lib.hid hi2
                rw [← ho, ← hk] at hi4
                rw [← ho, ← hk, ← hx] at hsa
                have HAE := Lib.hid hsa.1
                have HAL := Lib.hid hsa.2.1
                have HGL := Lib.hid hgl
                have HCL := Lib.hid hcl
                have HB0 : Hid ((idc (idN i)).toArray[0]? = some (.int .u8 i)) := Lib.hid (byte0 (by omega))
                have HB1' : Hid ((ints (said.map Int.ofNat)).toArray[i]? = some (.int .i64 k)) := Lib.hid (by rw [List.getElem?_toArray, ints_get said (by have := HSIM.out.len; omega), hk])
                have hk2 : k ≤ 1 := by have := (ansOf_len o).2; omega
                have hneq : ∀ w, (binOp .neq 37 (.agg (idc (idN i)).toArray) (.agg (idc (idN i)).toArray)).run Try.prog w = .ok (.bool false) w := fun w => by rw [run_neq_ids]; simp
                clear hi1 hi2 hi3 ho hk hx hsa hgl hcl hgd
                go_wp2_with (first
                  | (go_at_call 13; (with_reducible refine (settled_at w1.heap.size g' s (winL l said d m) wr HR.out.win HR.out.lenW HR.out.gb).mono ?_); rintro e x1 ⟨vs, rfl, hos, hgs, gs, hws, hgbs, hgns⟩; obtain ⟨As, cs, rfl⟩ := own_slice hos; have HOS := Lib.hid hos; have HGS := Lib.hid hgs; have HWS := Lib.hid hws; have HGNS := Lib.hid hgns; have hbs1 := hgs.size; clear hos hgs hws hgns)
                  | ((with_reducible refine at_dst 68 ?_); refine wpList_app43 rfl (.tmp 65) (.tmp 67) rfl (w2.heap.size + 1) wr.heap.size d (settled (winL l said d m)).length (.slice Ag d cg) (.slice As (settled (winL l said d m)).length cs) ((gotL l d).flatMap resc) ((settled (winL l said d m)).flatMap resc) (by rfl) (by rfl) (HR.out.got.kept HGS.out (.inr fun e' => by have h1 := own_bd HR.out.got _ e'; have h2 := HR.out.bs; omega)) HOS.out (fun u hu => by obtain ⟨x, _, hx⟩ := List.mem_flatMap.1 hu; exact oneCell_resc x u hx) (by rw [HSL.out]; have h1 := HR.out.sim.nl; have h2 := HR.out.sim.n60; have h3 := HQM.out; omega) (by have h1 := HR.out.hB; omega) ?_; intro v2 x2 ho2 hg2 hv2; have hsx := HR.out.settle HQM.out HQG.out HQD.out HQS.out HSL.out HGS.out HWS.out hgbs HGNS.out ho2 hg2 hv2; obtain ⟨g2, hs2⟩ := hsx; rw [HD2.out, HM2.out] at hs2; obtain ⟨Ag2, cg2, rfl⟩ := own_slice hs2.got; have HS := Lib.hid hs2; clear ho2 hg2 hv2 hs2 HOS HGS HWS HGNS hbs1 hgbs)
                  | (go_at_call 14; (with_reducible refine (outstanding_any w1.heap.size g2 s (winL l said d2 m2) x2 HS.out.win HS.out.lenW).mono ?_); rintro e y1 ⟨vo, rfl, hoo, hby⟩; obtain ⟨Ao, co, rfl⟩ := own_slice hoo; obtain ⟨go, hro, _, _⟩ := Rd.own hoo; obtain ⟨_, offo, rfl, hco⟩ := Rd.elem idc_len hro HRL2.out rfl; rw [HOI.out] at hco; have HCO := Lib.hid hco; have HY1 := Lib.hid (HS.out.below hby); clear hoo hby hro hco)
                  | ((with_reducible refine at_dst 106 ?_); refine wpList_load_cells rfl 37 _ rfl go (offo + (p / 4 % (outs (winL l said d2 m2)).length) * 32) (idc (idN i)) rfl _ Try.underlying37 rfl (sz_id _) (fun j u hu => by have h0 := HCO.out j u hu; rw [HRR.out] at h0; exact h0) ?_)
                  | ((with_reducible refine at_dst 16 ?_); refine wpList_al_id rfl rfl ?_; intro y2 hp2 hg2 hz2; have HP2 := Lib.hid hp2; have HG2 := Lib.hid hg2; clear hp2 hg2 hz2)
                  | ((with_reducible refine at_store 37 16 ?_); refine wpList_st_id rfl (.tmp 16) (.tmp 106) rfl y1.heap.size (idN i) HP2.out (by kernel_rfl) (by kernel_rfl) ?_; intro y3 hp3 hg3 hz3; have hb3 : Below y1.heap.size y1 y3 := HG2.out.toBelow.grown hg3 HG2.out.size (fun x hx => by simp at hx; omega); have HP3 := Lib.hid hp3; have HY3 := Lib.hid (HY1.out.below hb3); have hid3 := (hp3.cell 0).trans HB0.out; clear hp3 hg3 hz3 hb3)
                  | ((with_reducible refine at_dst 114 ?_); refine wpList_ld (by simp [Region.wanted, yielded, hil]) (.tmp 16) rfl y1.heap.size (idN i) (by kernel_rfl) HP3.out ?_)
                  | ((with_reducible refine at_dst 117 ?_); refine wpList_runW (by simp [Region.wanted, yielded, hil]) (.agg (idc (idN i)).toArray) (exec_id i (by omega) _ rfl) ?_)
                  | ((with_reducible refine at_dst 125 ?_); refine wpList_load_cells rfl 40 _ rfl gl (offl + i * 2) (ofc o) rfl _ Try.underlying40 rfl (size40' _) (fun j u hu => (HY3.out.bel.cell (p := ⟨gl, _, none⟩) HGL.out).trans (HCL.out j u hu)) ?_)
                  | (go_at_call 16; (with_reducible refine (final_any o y3).mono ?_); rintro e y4 ⟨va, rfl, hoa, hba⟩; obtain ⟨Aa, ca, rfl⟩ := own_slice hoa; obtain ⟨ga, hra, _, _⟩ := Rd.own hoa; obtain ⟨offa, rfl, hga, hca⟩ := rd_int' hra hi4 HX.out; have HGA := Lib.hid hga; have HCA := Lib.hid hca; have HY4 := Lib.hid (HY3.out.below hba); have HP4 := Lib.hid (HP3.out.below hba); clear hoa hra hba hga hca)
                )
                clear hid3 hneq
                refine wp_region_seq (nt := 182) (by kernel_rfl) [0,1,2,3,4,5,6,7,8,9] [10, 11] Rb Rb.refl Rb.trans [] (by kernel_rfl) (by simp) rfl (by kernel_rfl) (by simp) trivial ?_
                (refine' Sq.det (E := _) (b := _) (by rfl) (by rfl) (by rfl) (fun w' hR hf => ?_) ?_ ?_; rotate_left 2; (· (go_simp; first | done | with_reducible rfl)); (· (simp only [Act.put, List.setIfInBounds_toArray, List.set_cons_zero, List.set_cons_succ]; first | done | rfl)))
                (refine' Sq.det (E := _) (b := _) (by rfl) (by rfl) (by rfl) (fun w' hR hf => ?_) ?_ ?_; rotate_left 2; (· (refine exec_load_cells 37 _ y1.heap.size 0 (idc (idN i)) ?_ _ Try.underlying37 rfl (sz_id _) (fun j u hu => ?_); (· kernel_rfl); (rw [Nat.zero_add, (HP4.out.below (below_undrew hR)).cell, List.getElem?_toArray]; exact hu))); (· (simp only [Act.put, List.setIfInBounds_toArray, List.set_cons_zero, List.set_cons_succ]; first | done | rfl)))
                (refine' Sq.det (E := _) (b := _) (by rfl) (by rfl) (by rfl) (fun w' hR hf => ?_) ?_ ?_; rotate_left 2; (· (go_simp; first | done | with_reducible rfl)); (· (simp only [Act.put, List.setIfInBounds_toArray, List.set_cons_zero, List.set_cons_succ]; first | done | rfl)))
                (refine' Sq.det (E := _) (b := _) (by rfl) (by rfl) (by rfl) (fun w' hR hf => ?_) ?_ ?_; rotate_left 2; (· (go_simp; first | done | with_reducible rfl)); (· (simp only [Act.put, List.setIfInBounds_toArray, List.set_cons_zero, List.set_cons_succ]; first | done | rfl)))
                (refine' Sq.det (E := _) (b := _) (by rfl) (by rfl) (by rfl) (fun w' hR hf => ?_) ?_ ?_; rotate_left 2; (· (go_simp; first | done | with_reducible rfl)); (· (simp only [Act.put, List.setIfInBounds_toArray, List.set_cons_zero, List.set_cons_succ]; first | done | rfl)))
                (refine' Sq.det (E := _) (b := _) (by rfl) (by rfl) (by rfl) (fun w' hR hf => ?_) ?_ ?_; rotate_left 2; (· (have hc := ((HP4.out.below (below_undrew hR)).cell 0).trans HB0.out; go_simp; first | done | with_reducible rfl)); (· (simp only [Act.put, List.setIfInBounds_toArray, List.set_cons_zero, List.set_cons_succ]; first | done | rfl)))
                (refine' Sq.det (E := _) (b := _) (by rfl) (by rfl) (by rfl) (fun w' hR hf => ?_) ?_ ?_; rotate_left 2; (· (go_simp; first | done | with_reducible rfl)); (· (simp only [Act.put, List.setIfInBounds_toArray, List.set_cons_zero, List.set_cons_succ]; first | done | rfl)))
                (refine' Sq.det (E := _) (b := _) (by rfl) (by rfl) (by rfl) (fun w' hR hf => ?_) ?_ ?_; rotate_left 2; (· (have hc := ((HY4.out.below (below_undrew hR)).srow.cell i).trans HB1'.out; go_simp; first | done | with_reducible rfl)); (· (simp only [Act.put, List.setIfInBounds_toArray, List.set_cons_zero, List.set_cons_succ]; first | done | rfl)))
                (refine' Sq.det (E := _) (b := _) (by rfl) (by rfl) (by rfl) (fun w' hR hf => ?_) ?_ ?_; rotate_left 2; (· (go_simp; first | done | with_reducible rfl)); (· (simp only [Act.put, List.setIfInBounds_toArray, List.set_cons_zero, List.set_cons_succ]; first | done | rfl)))
                (refine' Sq.det (E := _) (b := _) (by rfl) (by rfl) (by rfl) (fun w' hR hf => ?_) ?_ ?_; rotate_left 2; (· (have hc := ((below_undrew hR).cell (p := ⟨ga, offa + k, none⟩) HGA.out).trans HCA.out; go_simp; first | done | with_reducible rfl)); (· (simp only [Act.put, List.setIfInBounds_toArray, List.set_cons_zero, List.set_cons_succ]; first | done | rfl)))
                refine Sq.tail2 (by rfl) (by rfl) fun y5 hR _ => ?_
                have HY5 := Lib.hid (HY4.out.below (below_undrew hR))
                have HP5 := Lib.hid (HP4.out.below (below_undrew hR))
                clear hR
                go_wp2_with (first
                  | (go_at_call 17; (with_reducible refine (answer_at w1.heap.size g2 s (winL l said d2 m2) (idN i) x y5 HY5.out.win HY5.out.lenW HY5.out.gb HOKW.out).mono ?_); rintro e y6 ⟨he, hg6, g6, hw6, hgb6, hgn6⟩; rw [HAE.out] at he; subst he; rw [HAL.out] at hw6; have hbs := HY5.out.bs; have hid6 := ((HP5.out.grown hg6 (by have h1 := HY1.out.hB; simp; omega)).cell 0).trans HB0.out; have hsr := (HY5.out.srow.grown hg6 (by simp; omega)); have hsc := (hsr.cell i).trans HB1'.out; have hfz := hsr.frozen i; have hfin := HY5.out.answered HI1.out HI2.out HI4.out hg6 (by rw [← HKK.out]; exact hw6) hgb6 hgn6; rw [← HKK.out] at hfin; have HFIN := Lib.hid hfin; clear hbs hg6 hw6 hgb6 hgn6 hsr hfin))
                go_roundw
                case rel => exact ⟨d2, m2, nx, st + 1, said.set i (k + 1), g6, Ag2, cg2, by omega, rfl, rfl, by go_num, HN2.out, HFIN⟩
                case measure => simp [intOf]; omega
      · obtain ⟨q, hqm, hqn, hqg, hqd, hqs⟩ := sim_settled HR.out.sim
        obtain ⟨d2, hd2⟩ : ∃ d2, d + q = d2 := ⟨_, rfl⟩
        obtain ⟨m2, hm2⟩ : ∃ m2, m - q = m2 := ⟨_, rfl⟩
        have HQM := Lib.hid hqm
        have HQG := Lib.hid hqg
        have HQD := Lib.hid hqd
        have HQS := Lib.hid hqs
        have HD2 := Lib.hid hd2
        have HM2 := Lib.hid hm2
        have HSL : Hid ((settled (winL l said d m)).length = q) := Lib.hid (by rw [settled_len, hqn])
        have HN2 : Hid (d2 + m2 = nx) := Lib.hid (by have := HNX.out; omega)
        have HSIM : Hid (Sim l said d2 m2) := Lib.hid (by rw [hd2, hm2] at hqs; exact hqs)
        clear hqm hqn hqg hqd hqs hd2 hm2
        have HOKW : Hid (OkL (winL l said d2 m2)) := Lib.hid ok_winL
        by_cases hn : nx < l.length
        · have HNL : Hid (d2 + m2 < l.length) := Lib.hid (by have := HN2.out; omega)
          have HAS : Hid (hasId (winL l said d2 m2) (idN nx) = false) := Lib.hid (by have := sim_has HSIM.out HNL.out; rwa [HN2.out] at this)
          cases hbz : busyB s (winL l said d2 m2) with
          | false =>
            have HBZ := Lib.hid hbz
            clear hbz
            go_wp2_with (first
              | (go_at_call 13; (with_reducible refine (settled_at w1.heap.size g' s (winL l said d m) wr HR.out.win HR.out.lenW HR.out.gb).mono ?_); rintro e x1 ⟨vs, rfl, hos, hgs, gs, hws, hgbs, hgns⟩; obtain ⟨As, cs, rfl⟩ := own_slice hos; have HOS := Lib.hid hos; have HGS := Lib.hid hgs; have HWS := Lib.hid hws; have HGNS := Lib.hid hgns; have hbs1 := hgs.size; clear hos hgs hws hgns)
              | ((with_reducible refine at_dst 68 ?_); refine wpList_app43 rfl (.tmp 65) (.tmp 67) rfl (w2.heap.size + 1) wr.heap.size d (settled (winL l said d m)).length (.slice Ag d cg) (.slice As (settled (winL l said d m)).length cs) ((gotL l d).flatMap resc) ((settled (winL l said d m)).flatMap resc) (by rfl) (by rfl) (HR.out.got.kept HGS.out (.inr fun e' => by have h1 := own_bd HR.out.got _ e'; have h2 := HR.out.bs; omega)) HOS.out (fun u hu => by obtain ⟨x, _, hx⟩ := List.mem_flatMap.1 hu; exact oneCell_resc x u hx) (by rw [HSL.out]; have h1 := HR.out.sim.nl; have h2 := HR.out.sim.n60; have h3 := HQM.out; omega) (by have h1 := HR.out.hB; omega) ?_; intro v2 x2 ho2 hg2 hv2; have hsx := HR.out.settle HQM.out HQG.out HQD.out HQS.out HSL.out HGS.out HWS.out hgbs HGNS.out ho2 hg2 hv2; obtain ⟨g2, hs2⟩ := hsx; rw [HD2.out, HM2.out] at hs2; obtain ⟨Ag2, cg2, rfl⟩ := own_slice hs2.got; have HS := Lib.hid hs2; clear ho2 hg2 hv2 hs2 HOS HGS HWS HGNS hbs1 hgbs)
              | ((with_reducible refine at_dst 88 ?_); refine wpList_runW (by simp [Region.wanted, yielded]) (.agg (idc (idN nx)).toArray) (exec_id nx (by omega) _ rfl) ?_)
              | (go_at_call 15; (with_reducible refine (offer_ok w1.heap.size g2 s (winL l said d2 m2) (idN nx) 10 x2 HS.out.win HS.out.lenW HS.out.gb HZ10.out HAS.out HBZ.out).mono ?_); rintro e x4 ⟨rfl, hg4, g4, hw4, hgb4, hgn4⟩; rw [← HN2.out] at hw4; have hs4 := HS.out.offered HNL.out HBZ.out hg4 hw4 hgb4 hgn4; have HS4 := Lib.hid hs4; clear hg4 hw4 hgb4 hgn4 hs4)
            )
            go_roundw
            case rel => exact ⟨d2, m2 + 1, nx + 1, st + 1, said, g4, Ag2, cg2, by omega, rfl, by go_num, by go_num, by have := HN2.out; omega, HS4⟩
            case measure => simp [intOf]; omega
          | true =>
            have HBZ := Lib.hid hbz
            have hol : 0 < (outs (winL l said d2 m2)).length := by have h1 : s ≤ ((outs (winL l said d2 m2)).length : Int) := (by simpa [busyB] using hbz); have := HS1.out; omega
            clear hbz
            obtain ⟨r, hr⟩ : ∃ r, r = 0 := ⟨_, rfl⟩
            have hrl : r < (outs (winL l said d2 m2)).length := by rw [hr]; exact hol
            have hmod : 0 < (outs (winL l said d2 m2)).length := by exact hol
            skip
            have HRR := Lib.hid hr
            clear hr
            have HRL2 := Lib.hid hrl
            obtain ⟨i, hi1, hi2, hi3, hi4⟩ := sim_out HSIM.out hrl
            have HOI := Lib.hid hi3
            have hil : i < l.length := by have := HN2.out; omega
            have hgd : l.getD i default = l[i] := by simp [hil]
            obtain ⟨hgl, offl, rfl, hcl⟩ := Rd.elem ofc_len HRL.out hil rfl
            rw [← hgd] at hcl
            obtain ⟨o, ho⟩ : ∃ o, o = l.getD i default := ⟨_, rfl⟩
            obtain ⟨k, hk⟩ : ∃ k, k = said.getD i 0 := ⟨_, rfl⟩
            obtain ⟨x, hx⟩ : ∃ x, x = (ansOf o).getD k 0 := ⟨_, rfl⟩
            have hsa := sim_answer HSIM.out hi1 hi2 hi4
            rw [← ho] at hcl
            have HO := Lib.hid ho
            have HKK := Lib.hid hk
            have HX := Lib.hid hx
            have HI4 := Lib.hid hi4
            have HI1 := Lib.hid hi1
            have HI2 := Lib.hid hi2
            rw [← ho, ← hk] at hi4
            rw [← ho, ← hk, ← hx] at hsa
            have HAE := Lib.hid hsa.1
            have HAL := Lib.hid hsa.2.1
            have HGL := Lib.hid hgl
            have HCL := Lib.hid hcl
            have HB0 : Hid ((idc (idN i)).toArray[0]? = some (.int .u8 i)) := Lib.hid (byte0 (by omega))
            have HB1' : Hid ((ints (said.map Int.ofNat)).toArray[i]? = some (.int .i64 k)) := Lib.hid (by rw [List.getElem?_toArray, ints_get said (by have := HSIM.out.len; omega), hk])
            have hk2 : k ≤ 1 := by have := (ansOf_len o).2; omega
            have hneq : ∀ w, (binOp .neq 37 (.agg (idc (idN i)).toArray) (.agg (idc (idN i)).toArray)).run Try.prog w = .ok (.bool false) w := fun w => by rw [run_neq_ids]; simp
            clear hi1 hi2 hi3 ho hk hx hsa hgl hcl hgd
            go_wp2_with (first
              | (go_at_call 13; (with_reducible refine (settled_at w1.heap.size g' s (winL l said d m) wr HR.out.win HR.out.lenW HR.out.gb).mono ?_); rintro e x1 ⟨vs, rfl, hos, hgs, gs, hws, hgbs, hgns⟩; obtain ⟨As, cs, rfl⟩ := own_slice hos; have HOS := Lib.hid hos; have HGS := Lib.hid hgs; have HWS := Lib.hid hws; have HGNS := Lib.hid hgns; have hbs1 := hgs.size; clear hos hgs hws hgns)
              | ((with_reducible refine at_dst 68 ?_); refine wpList_app43 rfl (.tmp 65) (.tmp 67) rfl (w2.heap.size + 1) wr.heap.size d (settled (winL l said d m)).length (.slice Ag d cg) (.slice As (settled (winL l said d m)).length cs) ((gotL l d).flatMap resc) ((settled (winL l said d m)).flatMap resc) (by rfl) (by rfl) (HR.out.got.kept HGS.out (.inr fun e' => by have h1 := own_bd HR.out.got _ e'; have h2 := HR.out.bs; omega)) HOS.out (fun u hu => by obtain ⟨x, _, hx⟩ := List.mem_flatMap.1 hu; exact oneCell_resc x u hx) (by rw [HSL.out]; have h1 := HR.out.sim.nl; have h2 := HR.out.sim.n60; have h3 := HQM.out; omega) (by have h1 := HR.out.hB; omega) ?_; intro v2 x2 ho2 hg2 hv2; have hsx := HR.out.settle HQM.out HQG.out HQD.out HQS.out HSL.out HGS.out HWS.out hgbs HGNS.out ho2 hg2 hv2; obtain ⟨g2, hs2⟩ := hsx; rw [HD2.out, HM2.out] at hs2; obtain ⟨Ag2, cg2, rfl⟩ := own_slice hs2.got; have HS := Lib.hid hs2; clear ho2 hg2 hv2 hs2 HOS HGS HWS HGNS hbs1 hgbs)
              | ((with_reducible refine at_dst 88 ?_); refine wpList_runW (by simp [Region.wanted, yielded]) (.agg (idc (idN nx)).toArray) (exec_id nx (by omega) _ rfl) ?_)
              | (go_at_call 15; (with_reducible refine (offer_busy w1.heap.size g2 s (winL l said d2 m2) (idN nx) 10 x2 HS.out.win HS.out.lenW HS.out.gb HZ10.out HAS.out HBZ.out).mono ?_); rintro e x3 ⟨rfl, hb3⟩; have HS3 := Lib.hid (HS.out.below hb3); clear hb3)
              | (go_at_call 14; (with_reducible refine (outstanding_any w1.heap.size g2 s (winL l said d2 m2) x3 HS3.out.win HS3.out.lenW).mono ?_); rintro e y1 ⟨vo, rfl, hoo, hby⟩; obtain ⟨Ao, co, rfl⟩ := own_slice hoo; obtain ⟨go, hro, _, _⟩ := Rd.own hoo; obtain ⟨_, offo, rfl, hco⟩ := Rd.elem idc_len hro HRL2.out rfl; rw [HOI.out] at hco; have HCO := Lib.hid hco; have HY1 := Lib.hid (HS3.out.below hby); clear hoo hby hro hco)
              | ((with_reducible refine at_dst 106 ?_); refine wpList_load_cells rfl 37 _ rfl go (offo + (0) * 32) (idc (idN i)) rfl _ Try.underlying37 rfl (sz_id _) (fun j u hu => by have h0 := HCO.out j u hu; rw [HRR.out] at h0; exact h0) ?_)
              | ((with_reducible refine at_dst 16 ?_); refine wpList_al_id rfl rfl ?_; intro y2 hp2 hg2 hz2; have HP2 := Lib.hid hp2; have HG2 := Lib.hid hg2; clear hp2 hg2 hz2)
              | ((with_reducible refine at_store 37 16 ?_); refine wpList_st_id rfl (.tmp 16) (.tmp 106) rfl y1.heap.size (idN i) HP2.out (by kernel_rfl) (by kernel_rfl) ?_; intro y3 hp3 hg3 hz3; have hb3 : Below y1.heap.size y1 y3 := HG2.out.toBelow.grown hg3 HG2.out.size (fun x hx => by simp at hx; omega); have HP3 := Lib.hid hp3; have HY3 := Lib.hid (HY1.out.below hb3); have hid3 := (hp3.cell 0).trans HB0.out; clear hp3 hg3 hz3 hb3)
              | ((with_reducible refine at_dst 114 ?_); refine wpList_ld (by simp [Region.wanted, yielded, hil]) (.tmp 16) rfl y1.heap.size (idN i) (by kernel_rfl) HP3.out ?_)
              | ((with_reducible refine at_dst 117 ?_); refine wpList_runW (by simp [Region.wanted, yielded, hil]) (.agg (idc (idN i)).toArray) (exec_id i (by omega) _ rfl) ?_)
              | ((with_reducible refine at_dst 125 ?_); refine wpList_load_cells rfl 40 _ rfl gl (offl + i * 2) (ofc o) rfl _ Try.underlying40 rfl (size40' _) (fun j u hu => (HY3.out.bel.cell (p := ⟨gl, _, none⟩) HGL.out).trans (HCL.out j u hu)) ?_)
              | (go_at_call 16; (with_reducible refine (final_any o y3).mono ?_); rintro e y4 ⟨va, rfl, hoa, hba⟩; obtain ⟨Aa, ca, rfl⟩ := own_slice hoa; obtain ⟨ga, hra, _, _⟩ := Rd.own hoa; obtain ⟨offa, rfl, hga, hca⟩ := rd_int' hra hi4 HX.out; have HGA := Lib.hid hga; have HCA := Lib.hid hca; have HY4 := Lib.hid (HY3.out.below hba); have HP4 := Lib.hid (HP3.out.below hba); clear hoa hra hba hga hca)
            )
            clear hid3 hneq
            refine wp_region_seq (nt := 182) (by kernel_rfl) [0,1,2,3,4,5,6,7,8,9] [10, 11] Rb Rb.refl Rb.trans [] (by kernel_rfl) (by simp) rfl (by kernel_rfl) (by simp) trivial ?_
            (refine' Sq.det (E := _) (b := _) (by rfl) (by rfl) (by rfl) (fun w' hR hf => ?_) ?_ ?_; rotate_left 2; (· (go_simp; first | done | with_reducible rfl)); (· (simp only [Act.put, List.setIfInBounds_toArray, List.set_cons_zero, List.set_cons_succ]; first | done | rfl)))
            (refine' Sq.det (E := _) (b := _) (by rfl) (by rfl) (by rfl) (fun w' hR hf => ?_) ?_ ?_; rotate_left 2; (· (refine exec_load_cells 37 _ y1.heap.size 0 (idc (idN i)) ?_ _ Try.underlying37 rfl (sz_id _) (fun j u hu => ?_); (· kernel_rfl); (rw [Nat.zero_add, (HP4.out.below (below_undrew hR)).cell, List.getElem?_toArray]; exact hu))); (· (simp only [Act.put, List.setIfInBounds_toArray, List.set_cons_zero, List.set_cons_succ]; first | done | rfl)))
            (refine' Sq.det (E := _) (b := _) (by rfl) (by rfl) (by rfl) (fun w' hR hf => ?_) ?_ ?_; rotate_left 2; (· (go_simp; first | done | with_reducible rfl)); (· (simp only [Act.put, List.setIfInBounds_toArray, List.set_cons_zero, List.set_cons_succ]; first | done | rfl)))
            (refine' Sq.det (E := _) (b := _) (by rfl) (by rfl) (by rfl) (fun w' hR hf => ?_) ?_ ?_; rotate_left 2; (· (go_simp; first | done | with_reducible rfl)); (· (simp only [Act.put, List.setIfInBounds_toArray, List.set_cons_zero, List.set_cons_succ]; first | done | rfl)))
            (refine' Sq.det (E := _) (b := _) (by rfl) (by rfl) (by rfl) (fun w' hR hf => ?_) ?_ ?_; rotate_left 2; (· (go_simp; first | done | with_reducible rfl)); (· (simp only [Act.put, List.setIfInBounds_toArray, List.set_cons_zero, List.set_cons_succ]; first | done | rfl)))
            (refine' Sq.det (E := _) (b := _) (by rfl) (by rfl) (by rfl) (fun w' hR hf => ?_) ?_ ?_; rotate_left 2; (· (have hc := ((HP4.out.below (below_undrew hR)).cell 0).trans HB0.out; go_simp; first | done | with_reducible rfl)); (· (simp only [Act.put, List.setIfInBounds_toArray, List.set_cons_zero, List.set_cons_succ]; first | done | rfl)))
            (refine' Sq.det (E := _) (b := _) (by rfl) (by rfl) (by rfl) (fun w' hR hf => ?_) ?_ ?_; rotate_left 2; (· (go_simp; first | done | with_reducible rfl)); (· (simp only [Act.put, List.setIfInBounds_toArray, List.set_cons_zero, List.set_cons_succ]; first | done | rfl)))
            (refine' Sq.det (E := _) (b := _) (by rfl) (by rfl) (by rfl) (fun w' hR hf => ?_) ?_ ?_; rotate_left 2; (· (have hc := ((HY4.out.below (below_undrew hR)).srow.cell i).trans HB1'.out; go_simp; first | done | with_reducible rfl)); (· (simp only [Act.put, List.setIfInBounds_toArray, List.set_cons_zero, List.set_cons_succ]; first | done | rfl)))
            (refine' Sq.det (E := _) (b := _) (by rfl) (by rfl) (by rfl) (fun w' hR hf => ?_) ?_ ?_; rotate_left 2; (· (go_simp; first | done | with_reducible rfl)); (· (simp only [Act.put, List.setIfInBounds_toArray, List.set_cons_zero, List.set_cons_succ]; first | done | rfl)))
            (refine' Sq.det (E := _) (b := _) (by rfl) (by rfl) (by rfl) (fun w' hR hf => ?_) ?_ ?_; rotate_left 2; (· (have hc := ((below_undrew hR).cell (p := ⟨ga, offa + k, none⟩) HGA.out).trans HCA.out; go_simp; first | done | with_reducible rfl)); (· (simp only [Act.put, List.setIfInBounds_toArray, List.set_cons_zero, List.set_cons_succ]; first | done | rfl)))
            refine Sq.tail2 (by rfl) (by rfl) fun y5 hR _ => ?_
            have HY5 := Lib.hid (HY4.out.below (below_undrew hR))
            have HP5 := Lib.hid (HP4.out.below (below_undrew hR))
            clear hR
            go_wp2_with (first
              | (go_at_call 17; (with_reducible refine (answer_at w1.heap.size g2 s (winL l said d2 m2) (idN i) x y5 HY5.out.win HY5.out.lenW HY5.out.gb HOKW.out).mono ?_); rintro e y6 ⟨he, hg6, g6, hw6, hgb6, hgn6⟩; rw [HAE.out] at he; subst he; rw [HAL.out] at hw6; have hbs := HY5.out.bs; have hid6 := ((HP5.out.grown hg6 (by have h1 := HY1.out.hB; simp; omega)).cell 0).trans HB0.out; have hsr := (HY5.out.srow.grown hg6 (by simp; omega)); have hsc := (hsr.cell i).trans HB1'.out; have hfz := hsr.frozen i; have hfin := HY5.out.answered HI1.out HI2.out HI4.out hg6 (by rw [← HKK.out]; exact hw6) hgb6 hgn6; rw [← HKK.out] at hfin; have HFIN := Lib.hid hfin; clear hbs hg6 hw6 hgb6 hgn6 hsr hfin))
            go_roundw
            case rel => exact ⟨d2, m2, nx, st + 1, said.set i (k + 1), g6, Ag2, cg2, by omega, rfl, rfl, by go_num, HN2.out, HFIN⟩
            case measure => simp [intOf]; omega
        · rcases Nat.eq_zero_or_pos (outs (winL l said d2 m2)).length with hol | hol
          · have HOE : Hid (outs (winL l said d2 m2) = []) := Lib.hid (List.eq_nil_of_length_eq_zero hol)
            have HNE : Hid (d2 + m2 = l.length) := Lib.hid (by have := HN2.out; omega)
            go_wp2_with (first
              | (go_at_call 13; (with_reducible refine (settled_at w1.heap.size g' s (winL l said d m) wr HR.out.win HR.out.lenW HR.out.gb).mono ?_); rintro e x1 ⟨vs, rfl, hos, hgs, gs, hws, hgbs, hgns⟩; obtain ⟨As, cs, rfl⟩ := own_slice hos; have HOS := Lib.hid hos; have HGS := Lib.hid hgs; have HWS := Lib.hid hws; have HGNS := Lib.hid hgns; have hbs1 := hgs.size; clear hos hgs hws hgns)
              | ((with_reducible refine at_dst 68 ?_); refine wpList_app43 rfl (.tmp 65) (.tmp 67) rfl (w2.heap.size + 1) wr.heap.size d (settled (winL l said d m)).length (.slice Ag d cg) (.slice As (settled (winL l said d m)).length cs) ((gotL l d).flatMap resc) ((settled (winL l said d m)).flatMap resc) (by rfl) (by rfl) (HR.out.got.kept HGS.out (.inr fun e' => by have h1 := own_bd HR.out.got _ e'; have h2 := HR.out.bs; omega)) HOS.out (fun u hu => by obtain ⟨x, _, hx⟩ := List.mem_flatMap.1 hu; exact oneCell_resc x u hx) (by rw [HSL.out]; have h1 := HR.out.sim.nl; have h2 := HR.out.sim.n60; have h3 := HQM.out; omega) (by have h1 := HR.out.hB; omega) ?_; intro v2 x2 ho2 hg2 hv2; have hsx := HR.out.settle HQM.out HQG.out HQD.out HQS.out HSL.out HGS.out HWS.out hgbs HGNS.out ho2 hg2 hv2; obtain ⟨g2, hs2⟩ := hsx; rw [HD2.out, HM2.out] at hs2; obtain ⟨Ag2, cg2, rfl⟩ := own_slice hs2.got; have HS := Lib.hid hs2; clear ho2 hg2 hv2 hs2 HOS HGS HWS HGNS hbs1 hgbs)
              | (go_at_call 14; (with_reducible refine (outstanding_any w1.heap.size g2 s (winL l said d2 m2) x2 HS.out.win HS.out.lenW).mono ?_); rintro e x3 ⟨vo3, rfl, ho3, hb3⟩; obtain ⟨A3, c3, rfl⟩ := own_slice ho3; have HS3 := Lib.hid (HS.out.below hb3); clear ho3 hb3)
            )
            go_roundw
            case rel => exact ⟨d2, m2, nx, st + 1, said, g2, Ag2, cg2, by omega, rfl, rfl, by go_num, HN2.out, Lib.hid (HS3.out.idle HOE.out HNE.out)⟩
            case measure => simp [intOf]; omega
          · obtain ⟨r, hr⟩ : ∃ r, r = 0 := ⟨_, rfl⟩
            have hrl : r < (outs (winL l said d2 m2)).length := by rw [hr]; exact hol
            have hmod : 0 < (outs (winL l said d2 m2)).length := by exact hol
            skip
            have HRR := Lib.hid hr
            clear hr
            have HRL2 := Lib.hid hrl
            obtain ⟨i, hi1, hi2, hi3, hi4⟩ := sim_out HSIM.out hrl
            have HOI := Lib.hid hi3
            have hil : i < l.length := by have := HN2.out; omega
            have hgd : l.getD i default = l[i] := by simp [hil]
            obtain ⟨hgl, offl, rfl, hcl⟩ := Rd.elem ofc_len HRL.out hil rfl
            rw [← hgd] at hcl
            obtain ⟨o, ho⟩ : ∃ o, o = l.getD i default := ⟨_, rfl⟩
            obtain ⟨k, hk⟩ : ∃ k, k = said.getD i 0 := ⟨_, rfl⟩
            obtain ⟨x, hx⟩ : ∃ x, x = (ansOf o).getD k 0 := ⟨_, rfl⟩
            have hsa := sim_answer HSIM.out hi1 hi2 hi4
            rw [← ho] at hcl
            have HO := Lib.hid ho
            have HKK := Lib.hid hk
            have HX := Lib.hid hx
            have HI4 := Lib.hid hi4
            have HI1 := Lib.hid hi1
            have HI2 := Lib.hid hi2
            rw [← ho, ← hk] at hi4
            rw [← ho, ← hk, ← hx] at hsa
            have HAE := Lib.hid hsa.1
            have HAL := Lib.hid hsa.2.1
            have HGL := Lib.hid hgl
            have HCL := Lib.hid hcl
            have HB0 : Hid ((idc (idN i)).toArray[0]? = some (.int .u8 i)) := Lib.hid (byte0 (by omega))
            have HB1' : Hid ((ints (said.map Int.ofNat)).toArray[i]? = some (.int .i64 k)) := Lib.hid (by rw [List.getElem?_toArray, ints_get said (by have := HSIM.out.len; omega), hk])
            have hk2 : k ≤ 1 := by have := (ansOf_len o).2; omega
            have hneq : ∀ w, (binOp .neq 37 (.agg (idc (idN i)).toArray) (.agg (idc (idN i)).toArray)).run Try.prog w = .ok (.bool false) w := fun w => by rw [run_neq_ids]; simp
            clear hi1 hi2 hi3 ho hk hx hsa hgl hcl hgd
            go_wp2_with (first
              | (go_at_call 13; (with_reducible refine (settled_at w1.heap.size g' s (winL l said d m) wr HR.out.win HR.out.lenW HR.out.gb).mono ?_); rintro e x1 ⟨vs, rfl, hos, hgs, gs, hws, hgbs, hgns⟩; obtain ⟨As, cs, rfl⟩ := own_slice hos; have HOS := Lib.hid hos; have HGS := Lib.hid hgs; have HWS := Lib.hid hws; have HGNS := Lib.hid hgns; have hbs1 := hgs.size; clear hos hgs hws hgns)
              | ((with_reducible refine at_dst 68 ?_); refine wpList_app43 rfl (.tmp 65) (.tmp 67) rfl (w2.heap.size + 1) wr.heap.size d (settled (winL l said d m)).length (.slice Ag d cg) (.slice As (settled (winL l said d m)).length cs) ((gotL l d).flatMap resc) ((settled (winL l said d m)).flatMap resc) (by rfl) (by rfl) (HR.out.got.kept HGS.out (.inr fun e' => by have h1 := own_bd HR.out.got _ e'; have h2 := HR.out.bs; omega)) HOS.out (fun u hu => by obtain ⟨x, _, hx⟩ := List.mem_flatMap.1 hu; exact oneCell_resc x u hx) (by rw [HSL.out]; have h1 := HR.out.sim.nl; have h2 := HR.out.sim.n60; have h3 := HQM.out; omega) (by have h1 := HR.out.hB; omega) ?_; intro v2 x2 ho2 hg2 hv2; have hsx := HR.out.settle HQM.out HQG.out HQD.out HQS.out HSL.out HGS.out HWS.out hgbs HGNS.out ho2 hg2 hv2; obtain ⟨g2, hs2⟩ := hsx; rw [HD2.out, HM2.out] at hs2; obtain ⟨Ag2, cg2, rfl⟩ := own_slice hs2.got; have HS := Lib.hid hs2; clear ho2 hg2 hv2 hs2 HOS HGS HWS HGNS hbs1 hgbs)
              | (go_at_call 14; (with_reducible refine (outstanding_any w1.heap.size g2 s (winL l said d2 m2) x2 HS.out.win HS.out.lenW).mono ?_); rintro e y1 ⟨vo, rfl, hoo, hby⟩; obtain ⟨Ao, co, rfl⟩ := own_slice hoo; obtain ⟨go, hro, _, _⟩ := Rd.own hoo; obtain ⟨_, offo, rfl, hco⟩ := Rd.elem idc_len hro HRL2.out rfl; rw [HOI.out] at hco; have HCO := Lib.hid hco; have HY1 := Lib.hid (HS.out.below hby); clear hoo hby hro hco)
              | ((with_reducible refine at_dst 106 ?_); refine wpList_load_cells rfl 37 _ rfl go (offo + (0) * 32) (idc (idN i)) rfl _ Try.underlying37 rfl (sz_id _) (fun j u hu => by have h0 := HCO.out j u hu; rw [HRR.out] at h0; exact h0) ?_)
              | ((with_reducible refine at_dst 16 ?_); refine wpList_al_id rfl rfl ?_; intro y2 hp2 hg2 hz2; have HP2 := Lib.hid hp2; have HG2 := Lib.hid hg2; clear hp2 hg2 hz2)
              | ((with_reducible refine at_store 37 16 ?_); refine wpList_st_id rfl (.tmp 16) (.tmp 106) rfl y1.heap.size (idN i) HP2.out (by kernel_rfl) (by kernel_rfl) ?_; intro y3 hp3 hg3 hz3; have hb3 : Below y1.heap.size y1 y3 := HG2.out.toBelow.grown hg3 HG2.out.size (fun x hx => by simp at hx; omega); have HP3 := Lib.hid hp3; have HY3 := Lib.hid (HY1.out.below hb3); have hid3 := (hp3.cell 0).trans HB0.out; clear hp3 hg3 hz3 hb3)
              | ((with_reducible refine at_dst 114 ?_); refine wpList_ld (by simp [Region.wanted, yielded, hil]) (.tmp 16) rfl y1.heap.size (idN i) (by kernel_rfl) HP3.out ?_)
              | ((with_reducible refine at_dst 117 ?_); refine wpList_runW (by simp [Region.wanted, yielded, hil]) (.agg (idc (idN i)).toArray) (exec_id i (by omega) _ rfl) ?_)
              | ((with_reducible refine at_dst 125 ?_); refine wpList_load_cells rfl 40 _ rfl gl (offl + i * 2) (ofc o) rfl _ Try.underlying40 rfl (size40' _) (fun j u hu => (HY3.out.bel.cell (p := ⟨gl, _, none⟩) HGL.out).trans (HCL.out j u hu)) ?_)
              | (go_at_call 16; (with_reducible refine (final_any o y3).mono ?_); rintro e y4 ⟨va, rfl, hoa, hba⟩; obtain ⟨Aa, ca, rfl⟩ := own_slice hoa; obtain ⟨ga, hra, _, _⟩ := Rd.own hoa; obtain ⟨offa, rfl, hga, hca⟩ := rd_int' hra hi4 HX.out; have HGA := Lib.hid hga; have HCA := Lib.hid hca; have HY4 := Lib.hid (HY3.out.below hba); have HP4 := Lib.hid (HP3.out.below hba); clear hoa hra hba hga hca)
            )
            clear hid3 hneq
            refine wp_region_seq (nt := 182) (by kernel_rfl) [0,1,2,3,4,5,6,7,8,9] [10, 11] Rb Rb.refl Rb.trans [] (by kernel_rfl) (by simp) rfl (by kernel_rfl) (by simp) trivial ?_
            (refine' Sq.det (E := _) (b := _) (by rfl) (by rfl) (by rfl) (fun w' hR hf => ?_) ?_ ?_; rotate_left 2; (· (go_simp; first | done | with_reducible rfl)); (· (simp only [Act.put, List.setIfInBounds_toArray, List.set_cons_zero, List.set_cons_succ]; first | done | rfl)))
            (refine' Sq.det (E := _) (b := _) (by rfl) (by rfl) (by rfl) (fun w' hR hf => ?_) ?_ ?_; rotate_left 2; (· (refine exec_load_cells 37 _ y1.heap.size 0 (idc (idN i)) ?_ _ Try.underlying37 rfl (sz_id _) (fun j u hu => ?_); (· kernel_rfl); (rw [Nat.zero_add, (HP4.out.below (below_undrew hR)).cell, List.getElem?_toArray]; exact hu))); (· (simp only [Act.put, List.setIfInBounds_toArray, List.set_cons_zero, List.set_cons_succ]; first | done | rfl)))
            (refine' Sq.det (E := _) (b := _) (by rfl) (by rfl) (by rfl) (fun w' hR hf => ?_) ?_ ?_; rotate_left 2; (· (go_simp; first | done | with_reducible rfl)); (· (simp only [Act.put, List.setIfInBounds_toArray, List.set_cons_zero, List.set_cons_succ]; first | done | rfl)))
            (refine' Sq.det (E := _) (b := _) (by rfl) (by rfl) (by rfl) (fun w' hR hf => ?_) ?_ ?_; rotate_left 2; (· (go_simp; first | done | with_reducible rfl)); (· (simp only [Act.put, List.setIfInBounds_toArray, List.set_cons_zero, List.set_cons_succ]; first | done | rfl)))
            (refine' Sq.det (E := _) (b := _) (by rfl) (by rfl) (by rfl) (fun w' hR hf => ?_) ?_ ?_; rotate_left 2; (· (go_simp; first | done | with_reducible rfl)); (· (simp only [Act.put, List.setIfInBounds_toArray, List.set_cons_zero, List.set_cons_succ]; first | done | rfl)))
            (refine' Sq.det (E := _) (b := _) (by rfl) (by rfl) (by rfl) (fun w' hR hf => ?_) ?_ ?_; rotate_left 2; (· (have hc := ((HP4.out.below (below_undrew hR)).cell 0).trans HB0.out; go_simp; first | done | with_reducible rfl)); (· (simp only [Act.put, List.setIfInBounds_toArray, List.set_cons_zero, List.set_cons_succ]; first | done | rfl)))
            (refine' Sq.det (E := _) (b := _) (by rfl) (by rfl) (by rfl) (fun w' hR hf => ?_) ?_ ?_; rotate_left 2; (· (go_simp; first | done | with_reducible rfl)); (· (simp only [Act.put, List.setIfInBounds_toArray, List.set_cons_zero, List.set_cons_succ]; first | done | rfl)))
            (refine' Sq.det (E := _) (b := _) (by rfl) (by rfl) (by rfl) (fun w' hR hf => ?_) ?_ ?_; rotate_left 2; (· (have hc := ((HY4.out.below (below_undrew hR)).srow.cell i).trans HB1'.out; go_simp; first | done | with_reducible rfl)); (· (simp only [Act.put, List.setIfInBounds_toArray, List.set_cons_zero, List.set_cons_succ]; first | done | rfl)))
            (refine' Sq.det (E := _) (b := _) (by rfl) (by rfl) (by rfl) (fun w' hR hf => ?_) ?_ ?_; rotate_left 2; (· (go_simp; first | done | with_reducible rfl)); (· (simp only [Act.put, List.setIfInBounds_toArray, List.set_cons_zero, List.set_cons_succ]; first | done | rfl)))
            (refine' Sq.det (E := _) (b := _) (by rfl) (by rfl) (by rfl) (fun w' hR hf => ?_) ?_ ?_; rotate_left 2; (· (have hc := ((below_undrew hR).cell (p := ⟨ga, offa + k, none⟩) HGA.out).trans HCA.out; go_simp; first | done | with_reducible rfl)); (· (simp only [Act.put, List.setIfInBounds_toArray, List.set_cons_zero, List.set_cons_succ]; first | done | rfl)))
            refine Sq.tail2 (by rfl) (by rfl) fun y5 hR _ => ?_
            have HY5 := Lib.hid (HY4.out.below (below_undrew hR))
            have HP5 := Lib.hid (HP4.out.below (below_undrew hR))
            clear hR
            go_wp2_with (first
              | (go_at_call 17; (with_reducible refine (answer_at w1.heap.size g2 s (winL l said d2 m2) (idN i) x y5 HY5.out.win HY5.out.lenW HY5.out.gb HOKW.out).mono ?_); rintro e y6 ⟨he, hg6, g6, hw6, hgb6, hgn6⟩; rw [HAE.out] at he; subst he; rw [HAL.out] at hw6; have hbs := HY5.out.bs; have hid6 := ((HP5.out.grown hg6 (by have h1 := HY1.out.hB; simp; omega)).cell 0).trans HB0.out; have hsr := (HY5.out.srow.grown hg6 (by simp; omega)); have hsc := (hsr.cell i).trans HB1'.out; have hfz := hsr.frozen i; have hfin := HY5.out.answered HI1.out HI2.out HI4.out hg6 (by rw [← HKK.out]; exact hw6) hgb6 hgn6; rw [← HKK.out] at hfin; have HFIN := Lib.hid hfin; clear hbs hg6 hw6 hgb6 hgn6 hsr hfin))
            go_roundw
            case rel => exact ⟨d2, m2, nx, st + 1, said.set i (k + 1), g6, Ag2, cg2, by omega, rfl, rfl, by go_num, HN2.out, HFIN⟩
            case measure => simp [intOf]; omega
    · obtain rfl : st = 400 := by omega
      have hmz : meas l said (d + m) = 0 := by
        rcases HR.out.ms with h | h
        · omega
        · exact h
      obtain ⟨_, hz2, hz3⟩ := meas_zero HR.out.sim hmz
      obtain ⟨q, hqm, hqn, hqg, hqd, hqs⟩ := sim_settled HR.out.sim
      obtain ⟨d2, hd2⟩ : ∃ d2, d + q = d2 := ⟨_, rfl⟩
      obtain ⟨m2, hm2⟩ : ∃ m2, m - q = m2 := ⟨_, rfl⟩
      have HQM := Lib.hid hqm
      have HQG := Lib.hid hqg
      have HQD := Lib.hid hqd
      have HQS := Lib.hid hqs
      have HD2 := Lib.hid hd2
      have HM2 := Lib.hid hm2
      have HSL : Hid ((settled (winL l said d m)).length = q) := Lib.hid (by rw [settled_len, hqn])
      have HN2 : Hid (d2 + m2 = nx) := Lib.hid (by have := HNX.out; omega)
      have HSIM : Hid (Sim l said d2 m2) := Lib.hid (by rw [hd2, hm2] at hqs; exact hqs)
      clear hqm hqn hqg hqd hqs hd2 hm2
      have HWN : Hid (winL l said d2 m2 = []) := Lib.hid (by rw [← HD2.out, ← HM2.out, ← HQD.out]; exact hz3)
      have HGE : Hid (gotL l d2 = gotL l l.length) := Lib.hid (by rw [← HD2.out, ← HQG.out]; exact hz2)
      have hdl : d2 = l.length := by have h1 := congrArg List.length HGE.out; simpa [gotL_len] using h1
      subst hdl
      clear hmz hz2 hz3
      obtain ⟨i1, hi1, hy0, hy1, hy2⟩ := info_parts info43
      go_wp2_with (first
        | (go_at_call 13; (with_reducible refine (settled_at w1.heap.size g' s (winL l said d m) wr HR.out.win HR.out.lenW HR.out.gb).mono ?_); rintro e x1 ⟨vs, rfl, hos, hgs, gs, hws, hgbs, hgns⟩; obtain ⟨As, cs, rfl⟩ := own_slice hos; have HOS := Lib.hid hos; have HGS := Lib.hid hgs; have HWS := Lib.hid hws; have HGNS := Lib.hid hgns; have hbs1 := hgs.size; clear hos hgs hws hgns)
        | ((with_reducible refine at_dst 151 ?_); refine wpList_app43 rfl (.tmp 148) (.tmp 150) rfl (w2.heap.size + 1) wr.heap.size d (settled (winL l said d m)).length (.slice Ag d cg) (.slice As (settled (winL l said d m)).length cs) ((gotL l d).flatMap resc) ((settled (winL l said d m)).flatMap resc) (by rfl) (by rfl) (HR.out.got.kept HGS.out (.inr fun e' => by have h1 := own_bd HR.out.got _ e'; have h2 := HR.out.bs; omega)) HOS.out (fun u hu => by obtain ⟨x, _, hx⟩ := List.mem_flatMap.1 hu; exact oneCell_resc x u hx) (by rw [HSL.out]; have h1 := HR.out.sim.nl; have h2 := HR.out.sim.n60; have h3 := HQM.out; omega) (by have h1 := HR.out.hB; omega) ?_; intro v2 x2 ho2 hg2 hv2; have hsx := HR.out.settle HQM.out HQG.out HQD.out HQS.out HSL.out HGS.out HWS.out hgbs HGNS.out ho2 hg2 hv2; obtain ⟨g2, hs2⟩ := hsx; rw [HD2.out, HM2.out] at hs2; obtain ⟨Ag2, cg2, rfl⟩ := own_slice hs2.got; have HS := Lib.hid hs2; clear ho2 hg2 hv2 hs2 HOS HGS HWS HGNS hbs1 hgbs)
      )
      go_loopw [10, 19] (fun vv iv wr => ∃ (i : Nat) (Aw : Option Addr) (cw : Nat), i ≤ l.length ∧ vv = .slice Aw i cw ∧ iv = .int .i64 i ∧ Hid (wr.ownsRow x2.heap.size 43 33 (.slice Aw i cw) i ((gotL l i).flatMap resc)) ∧ Hid (Below x2.heap.size x2 wr)) (fun _ iv _ => l.length - (intOf iv).toNat)
      case atStart => exact ⟨0, none, 0, by omega, rfl, rfl, Lib.hid ⟨by simp [gotL], .inl ⟨rfl, rfl⟩⟩, Lib.hid (Below.refl _ _)⟩
      case round =>
        obtain ⟨i, Aw, cw, hil', rfl, rfl, HOW, HBW'⟩ := hrel
        by_cases hil : i < l.length
        · have hgd : l.getD i default = l[i] := by simp [hil]
          obtain ⟨hgl, offl, rfl, hcl⟩ := Rd.elem ofc_len HRL.out hil rfl
          rw [← hgd] at hcl
          obtain ⟨o, ho⟩ : ∃ o, o = l.getD i default := ⟨_, rfl⟩
          rw [← ho] at hcl
          have HRN : Hid (resN l i = ⟨idN i, finOf o⟩) := Lib.hid (by rw [ho]; rfl)
          clear ho
          have HGL := Lib.hid hgl
          have HCL := Lib.hid hcl
          clear hgl hcl hgd
          go_wp2_with (first
            | ((with_reducible refine at_dst 162 ?_); refine wpList_load_cells rfl 40 _ rfl gl (offl + i * 2) (ofc o) rfl _ Try.underlying40 rfl (size40' _) (fun j u hu => ((HBW'.out.cell (p := ⟨gl, _, none⟩) (Nat.lt_of_lt_of_le HGL.out HS.out.bel.size)).trans (HS.out.bel.cell (p := ⟨gl, _, none⟩) HGL.out)).trans (HCL.out j u hu)) ?_)
            | (go_at_call 16; (with_reducible refine (final_any o wr).mono ?_); rintro e y1 ⟨va, rfl, hoa, hba⟩; obtain ⟨Aa, ca, rfl⟩ := own_slice hoa; have HOW1 := Lib.hid (own_below HOW.out hba); have HB1' := Lib.hid (HBW'.out.trans (hba.mono HBW'.out.size)); clear hoa hba)
            | ((with_reducible refine at_dst 169 ?_); refine wpList_run rfl (.agg (idc (idN i)).toArray) (exec_id i (by omega) _ rfl) ?_)
            | ((with_reducible refine at_dst 171 ?_); refine wpList_run rfl (.agg (resc ⟨idN i, finOf o⟩).toArray) (exec_build43 _ _ ⟨idN i, finOf o⟩ rfl rfl) ?_)
            | ((with_reducible refine at_dst 172 ?_); refine wpList_push 30 x2.heap.size 43 i1 z43 33 40 Try.underlying30 hi1 hy0 hy1 hy2 z43_size (by omega) (by omega) _ (resc ⟨idN i, finOf o⟩) rfl rfl (resc_len _) (oneCell_resc _) (.slice Aw i cw) i ((gotL l i).flatMap resc) rfl (by simp [Act.put]) HOW1.out (by simp only [maxLen]; omega) (by omega) HB1'.out.size ?_; intro v' y2 hown2 hgr2 _; obtain ⟨Aw2, cw2, rfl⟩ := own_slice hown2; rw [← HRN.out, gotL_succ] at hown2; have HO2 := Lib.hid hown2; have HB2' := Lib.hid (HB1'.out.grown hgr2 HB1'.out.size (fun x hx => (own_bd HOW1.out x hx).1)); clear hown2 hgr2))
          go_roundw
          case rel => exact ⟨i + 1, Aw2, cw2, by omega, rfl, by go_num, HO2, HB2'⟩
          case measure => simp [intOf]; omega
        · obtain rfl : i = l.length := by omega
          obtain ⟨gA, hra, _, _⟩ := Rd.own (own_below HS.out.got HBW'.out)
          obtain ⟨gB, hrb, _, _⟩ := Rd.own HOW.out
          have hres := results_any (gotL l l.length) (gotL l l.length) gA cg2 gB cw Ag2 Aw wr (by rw [gotL_len]; exact hra) (by rw [gotL_len]; exact hrb) (by rw [gotL_len]; omega) (by rw [gotL_len]; omega)
          rw [gotL_len] at hres
          have HRES := Lib.hid hres
          clear hra hrb hres
          go_wp2_with (first
            | (go_at_call 18; (with_reducible refine HRES.out.mono ?_); rintro e y5 ⟨he, hb5⟩; obtain rfl : e = .returned (.bool true) := he.trans (by simp); have HB5 := Lib.hid hb5; clear he hb5)
            | (go_at_call 19; (with_reducible refine (len_any w1.heap.size g2 s (winL l said l.length m2) y5 ((HS.out.win.below HBW'.out).below HB5.out)).mono ?_); rintro e y6 ⟨he, rfl⟩; rw [HWN.out] at he; subst he))
          go_ret
          exact ⟨rfl, HS.out.bel.trans ((HBW'.out.trans' HB5.out).mono HS.out.bel.size)⟩

theorem one_any (n : Int) (l : List Of) (picks : List UInt8) (gl gp c cp : Nat) (A Ap : Option Addr) (w : World) (hrl : Rd w gl 2 A l.length (l.flatMap ofc)) (hrp : Rd w gp 1 Ap picks.length (picks.flatMap fun x => [Value.int .u8 x.toNat])) (hl : l.length ≤ maxLen) (hp : picks.length ≤ maxLen) :
    Calls Try.prog 3 #[.int .i64 n, .slice A l.length c, .slice Ap picks.length cp] w fun e w' => e = .returned (.bool true) ∧ Below w.heap.size w w' := by
  by_cases h : l.length ≤ 60 ∧ picks.length ≤ 400
  · exact one_walk n l picks gl gp c cp A Ap w hrl hrp h.1 h.2
  · exact one_long n l picks.length c cp A Ap w hl hp (by omega)
end Go.Proofs.Ytbcejdmgdgghfaa
