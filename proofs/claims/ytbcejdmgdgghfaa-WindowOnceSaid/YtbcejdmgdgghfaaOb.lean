/- WindowOnce: the walk. Condition: at most 100 operations, as the statement has it. -/
import Derived.Test.YtbcejdmgdgghfaaOa
namespace Go.Proofs.Ytbcejdmgdgghfaa
set_option linter.unusedSimpArgs false
set_option linter.unusedVariables false
set_option linter.unnecessarySimpa false
open Go.RowKit

theorem at_mapupd {P : Program} {ops : Array Oper} {Q : Exit → Act → World → Prop} {rest : List Oper} {a : Act} {w : World} {m x v : Operand} {ty : TypeId} {t : TypeId} {p : String} {af : Array Edge} {g : Option (Nat × Bool)}
    (h : wpList P ops Q (⟨none, .mapUpdate ty m x v, t, p, af, g⟩ :: rest) a w) : wpList P ops Q (⟨none, .mapUpdate ty m x v, t, p, af, g⟩ :: rest) a w := h
theorem wf_small {k : Nat} (h : k ≤ 100) : (Lit.int .i64 (k : Int)).wf = true := by
  have e1 : IntKind.i64.min = -9223372036854775808 := by decide
  have e2 : IntKind.i64.max = 9223372036854775807 := by decide
  simp only [Lit.wf, e1, e2, Bool.and_eq_true, decide_eq_true_eq]
  omega

set_option maxHeartbeats 2000000 in
theorem once_long (n : Int) (l : List Op') (g c : Nat) (A : Option Addr) (w : World) (hl : l.length ≤ maxLen) (h100 : 100 < l.length) :
    Calls Try.prog 6 #[.int .i64 n, .slice A l.length c] w fun e w' => e = .returned (.bool true) ∧ Below w.heap.size w w' := by
  go_enter Try.func6, Try.ntmps6
  go_wp2_with (first
    | (go_at_call 11; with_reducible refine (known_any w).mono ?_; rintro e w1 ⟨rfl, hb1⟩; have HB1 := Lib.hid hb1; clear hb1)
    | (go_at_call 11; with_reducible refine (known_any w1).mono ?_; rintro e w2 ⟨rfl, hb2⟩; have HB2 := Lib.hid (HB1.out.trans' hb2); clear hb2))
  go_ret
  exact ⟨rfl, HB2.out⟩

theorem MapI.nocell {w : World} {b n : Nat} {f : Id → Int} (h : MapI w b n f) : ∃ es cl, w.heap[b]? = some (.map es cl) := by
  obtain ⟨D, h1, _, _⟩ := h
  obtain ⟨es, cl, h2, _⟩ := h1
  exact ⟨es, cl, h2⟩
theorem win_grown_map {w w' : World} {b g mb n : Nat} {s : Int} {l : List Ofr} {f : Id → Int} (h : Win w b s l g) (hm : MapI w mb n f) (hne : mb ≠ b) (hg : w.grownBy w' (some mb)) : Win w' b s l g := by
  obtain ⟨es, cl, hmb⟩ := hm.nocell
  obtain ⟨A, c, h1, h2, h3⟩ := h
  refine ⟨A, c, h1.grown hg (by simpa using Ne.symm hne), ?_, h3⟩
  rcases Nat.eq_zero_or_pos l.length with h0 | h0
  · have : l = [] := List.eq_nil_of_length_eq_zero h0
    subst this; exact Rd.nil _ _ _ _
  · refine h2.grown hg fun e => ?_
    injection e with e
    obtain ⟨_, off, _, hc⟩ := h2.elem ofrc_len h0 rfl
    have := hc 33 _ (ofrc_33 _)
    simp [World.cell?, e, hmb] at this
theorem own_ne_map {w : World} {base e size n n' mb : Nat} {v : Value} {xs : List Value} {f : Id → Int} (h : w.ownsRow base e size v n xs) (hm : MapI w mb n' f) : v.ownBlock ≠ some mb := by
  obtain ⟨es, cl, hmb⟩ := hm.nocell
  rcases h.2 with ⟨rfl, _⟩ | ⟨g', cap, cur, rfl, _, hh, _⟩
  · simp [Value.ownBlock]
  · intro he
    have : g' = mb := by simpa [Value.ownBlock] using he
    subst this
    rw [hmb] at hh
    cases hh

set_option maxRecDepth 20000 in
set_option maxHeartbeats 8000000 in
theorem once_walk (n : Int) (l : List Op') (g c : Nat) (A : Option Addr) (w : World) (hr : Rd w g 34 A l.length (l.flatMap opc)) (h100 : l.length ≤ 100) :
    Calls Try.prog 6 #[.int .i64 n, .slice A l.length c] w fun e w' => e = .returned (.bool true) ∧ Below w.heap.size w w' := by
  have HR := Lib.hid hr
  obtain ⟨s, hs⟩ : ∃ s, s = szOf n := ⟨_, rfl⟩
  obtain ⟨e1, e2, e3, e4, e5⟩ : SzF n s := hs ▸ szF n
  have hsv : validB s = true := hs ▸ szOf_valid n
  have HV := Lib.hid hsv
  have hmm := @run_makeMap Try.prog
  clear hr hs hsv
  go_enter Try.func6, Try.ntmps6
  go_wp2_with (first
    | (go_at_call 11; with_reducible refine (known_any w).mono ?_; rintro e w1 ⟨rfl, hb1⟩; have HB1 := Lib.hid hb1; clear hb1)
    | (go_at_call 12; with_reducible refine (new_ok s w1 HV.out).mono ?_; rintro e w2 ⟨rfl, hw2, he2⟩; have HW2 := Lib.hid (hw2.nil_at (g' := w1.heap.size + 1)); have hb2 : Below w1.heap.size w1 w2 := (by rw [he2]; exact bnew w1 _); have HB2 := Lib.hid (HB1.out.trans' hb2); have HBW := Lib.hid HB1.out.size; clear hw2 he2 hb2 e1 e2 e3 e4 e5))
  have HM2 := Lib.hid (MapI.made w2)
  have HBM := Lib.hid (show w1.heap.size < w2.heap.size from HW2.out.cells.1)
  have HW3 := Lib.hid (HW2.out.below (bnew w2 (.map #[] 0)))
  have HB3 := Lib.hid (HB2.out.trans' (bnew w2 (.map #[] 0)))
  clear hmm
  go_loopw [7, 8, 10, 11] (fun mv bv lv iv wr => ∃ k made back last sk lk g' f, k ≤ l.length ∧ mv = .int .i64 made ∧ bv = .int .i64 back ∧ lv = .int .i64 last ∧ iv = .int .i64 k ∧ Hid (OnceI k made back last f lk) ∧ Win wr w1.heap.size sk lk g' ∧ g' ≠ w1.heap.size ∧ OkL lk ∧ MapI wr w2.heap.size k f ∧ Below w.heap.size w wr) (fun _ _ _ iv _ => l.length - (intOf iv).toNat)
  case atStart => exact ⟨0, 0, 0, -1, s, [], w1.heap.size + 1, fun _ => 0, by omega, rfl, rfl, rfl, rfl, Lib.hid onceI_nil, HW3.out, by omega, okL_nil, HM2.out, HB3.out⟩
  case round =>
    obtain ⟨k, made, back, last, sk, lk, g', f, hk, rfl, rfl, rfl, rfl, HI, hw, hgb, hok, hmi, hbw⟩ := hrel
    have HW := Lib.hid hw
    have HOK := Lib.hid hok
    have HMI := Lib.hid hmi
    have HB := Lib.hid hbw
    have hi1 := HI.out.mi
    have hi2 := HI.out.b0
    have hi3 : (lk.length : Int) ≤ k := by have := HI.out.cnt; omega
    have hi4 := HI.out.l1
    have hi5 := HI.out.li
    have hi6 : back ≤ made := by have := HI.out.cnt; omega
    clear hw hok hmi hbw
    by_cases hlt : k < l.length
    · obtain ⟨hg, off, rfl, hc⟩ := (HR.out.below HB.out).elem opc_len hlt rfl
      have HC := Lib.hid hc
      have hgw : g < w.heap.size := (HR.out.2 (by omega)).1
      clear hc
      have hkl := l[k].kind.toNat_lt
      have hrm := rem5 l[k].kind.toNat (by omega) (knd l[k]) rfl
      obtain ⟨t, ht⟩ : ∃ t, t = stepW sk lk l[k] := ⟨_, rfl⟩
      have HT := Lib.hid ht
      clear ht
      by_cases hA : knd l[k] = 0 ∧ t.err = 0
      · have hb0 : ((knd l[k] : Int) == 0) = true := by simp [hA.1]
        have he0 : (t.err == 0) = true := by simp [hA.2]
        have HO : Hid (OnceS k (made + 1) back last (upd f l[k].id k) t) := Lib.hid (by rw [HT.out]; exact once_offer HI.out hA.1 (by rw [← HT.out]; exact hA.2))
        clear hA
        go_wp2_with (first
          | (with_reducible refine at_dst 48 ?_; refine wpList_load_cells rfl 51 _ rfl g (off + k * 34) (opc l[k]) rfl _ Try.underlying51 rfl (by rw [opc_len]; exact size51) (fun j u hu => HC.out j u hu) ?_)
          | (go_at_call 23; with_reducible refine (perform_any w1.heap.size g' sk lk l[k] wr HW.out (by omega) hgb HOK.out).mono ?_; intro e w3 hpp; rw [← HT.out] at hpp; unfold PPost at hpp; obtain ⟨v1, v2, he, ho1, ho2, hg3, g3, hw3, hgb3⟩ := hpp; subst he; obtain ⟨A1, c1, rfl⟩ := own_slice ho1; obtain ⟨A2, c2, rfl⟩ := own_slice ho2; have HO1 := Lib.hid ho1; have HW3 := Lib.hid hw3; have HMI3 := Lib.hid (HMI.out.kept hg3 (by have := HBM.out; simp; omega)); have HB3 := Lib.hid (HB.out.grown hg3 HB.out.size (fun x hx => by have := HBW.out; simp at hx; omega)); have hbop := HBW.out; have hc0 : w3.cell? ⟨g, off + k * 34, none⟩ = some (.int .u8 l[k].kind.toNat) := (by have h0 := hg3.cell (HC.out 0 _ (opc_0 _)) (by simp; omega); simpa using h0); have HC3 : Hid (∀ j u, (opc l[k])[j]? = some u → w3.cell? ⟨g, off + k * 34 + j, none⟩ = some u) := Lib.hid (fun j u hu => hg3.cell (HC.out j u hu) (by simp; omega)); clear ho1 ho2 hg3 hw3)
          | (with_reducible refine at_dst 69 ?_; refine wpList_load_cells rfl 37 _ rfl g (off + k * 34 + 1) (idc l[k].id) rfl _ Try.underlying37 rfl (sz_id _) (fun j u hu => ?_) ?_; (have hj : j < 32 := by (have := (List.getElem?_eq_some_iff.1 hu).1; rwa [idc_len] at this)); (rw [Nat.add_assoc]; exact HC3.out (1 + j) u (by rw [opc_id _ j hj]; exact hu)))
          | (with_reducible refine at_mapupd ?_; refine wpList_mapput rfl (.tmp 64) (.tmp 69) (.tmp 70) rfl w2.heap.size k f HMI3.out (by simp only [maxLen]; omega) l[k].id k (wf_small (by omega)) rfl rfl rfl ?_; intro w4 hm4 hg4; have HM4 := Lib.hid hm4; have HG4 := Lib.hid hg4; clear hm4 hg4))
        have HWz := Lib.hid (win_grown_map HW3.out HMI3.out (by have := HBM.out; omega) HG4.out)
        have HMz := HM4
        have HOz := Lib.hid (HO1.out.kept HG4.out (.inr (own_ne_map HO1.out HMI3.out)))
        have HBz := Lib.hid (HB3.out.grown HG4.out HB3.out.size (fun x hx => by have := HBM.out; have := HBW.out; simp at hx; omega))
        obtain ⟨q1, hr1, _, _⟩ := Rd.own HOz.out
        have HR1 := Lib.hid hr1
        obtain ⟨md, hmd⟩ : ∃ md : Int, md = made + 1 := ⟨_, rfl⟩
        obtain ⟨f', hf'⟩ : ∃ f', f' = upd f l[k].id k := ⟨_, rfl⟩
        have HMD := Lib.hid hmd
        have HFF := Lib.hid hf'
        have ho1 := HO.out
        rw [← HMD.out, ← HFF.out] at ho1
        have hmz := HMz.out
        rw [← HFF.out] at hmz
        have HMf := Lib.hid hmz
        have HOO := Lib.hid ho1
        have hn1 := ho1.next.cnt
        have hn2 := ho1.next.mi
        have hn3 : md ≤ k + 1 := by simpa using hn2
        have hcnt : (md != back + (t.res.length : Int) + (t.ids.length : Int) + (t.offers.length : Int)) = false := by simp; omega
        have hbz : back + (t.res.length : Int) + (t.ids.length : Int) + (t.offers.length : Int) ≤ 101 := by omega
        have HCNT := Lib.hid hcnt
        clear hr1 ho1 hmz hmd hf' hn1 hn2 hcnt
        go_loopw [8, 10, 15] (fun bv lv jv wr => ∃ j : Nat, j ≤ t.res.length ∧ jv = .int .i64 j ∧ bv = .int .i64 (back + j) ∧ lv = .int .i64 (lastAt f' last t.res j) ∧ Below w4.heap.size w4 wr) (fun _ _ jv _ => t.res.length - (intOf jv).toNat)
        case atStart => exact ⟨0, by omega, rfl, by simp, rfl, Below.refl _ _⟩
        case round =>
          obtain ⟨j, hj, rfl, rfl, rfl, hbj⟩ := hrel
          have HBJ := Lib.hid hbj
          clear hbj
          by_cases hltj : j < t.res.length
          · obtain ⟨hq, offr, rfl, hcr⟩ := (HR1.out.below HBJ.out).elem resc_len hltj rfl
            obtain ⟨hl1, hl2, hl3⟩ := HOO.out.res j hltj
            have hls := lastAt_succ f' last t.res j hltj
            have HLS := Lib.hid hls
            obtain ⟨la, hla⟩ : ∃ la, la = lastAt f' last t.res j := ⟨_, rfl⟩
            have HCR := Lib.hid hcr
            have h32 := hcr 32 _ (resc_32 _)
            have HLA := Lib.hid hla
            clear hls hcr hla
            go_wp2_with (first
              | (with_reducible refine at_dst 84 ?_; refine wpList_load_cells rfl 37 _ rfl q1 (offr + j * 33) (idc t.res[j].id) rfl _ Try.underlying37 rfl (sz_id _) (fun x u hu => ?_) ?_; (have hj32 : x < 32 := by (have := (List.getElem?_eq_some_iff.1 hu).1; rwa [idc_len] at this)); (exact HCR.out x u (by rw [resc_id _ x hj32]; exact hu)))
              | (with_reducible refine at_dst 85 ?_; refine wpList_mapget (by simp [Region.wanted, yielded]) (.tmp 79) (.tmp 84) rfl w2.heap.size (k + 1) f' (HMf.out.below HBJ.out) t.res[j].id rfl rfl ?_)
              | (with_reducible refine at_dst 109 ?_; refine wpList_load_cells rfl 37 _ rfl q1 (offr + j * 33) (idc t.res[j].id) rfl _ Try.underlying37 rfl (sz_id _) (fun x u hu => ?_) ?_; (have hj32 : x < 32 := by (have := (List.getElem?_eq_some_iff.1 hu).1; rwa [idc_len] at this)); (exact HCR.out x u (by rw [resc_id _ x hj32]; exact hu)))
              | (with_reducible refine at_dst 110 ?_; refine wpList_mapget (by simp [Region.wanted, yielded]) (.tmp 104) (.tmp 109) rfl w2.heap.size (k + 1) f' (HMf.out.below HBJ.out) t.res[j].id rfl rfl ?_))
            go_roundw
            case rel => exact ⟨j + 1, by omega, by go_num, by first | (simp; done) | (simp; omega), by rw [HLS.out], HBJ.out⟩
            case measure => simp [intOf]; omega
          · obtain rfl : j = t.res.length := by omega
            have HWj := Lib.hid (HWz.out.below HBJ.out)
            have hcc := HCNT.out
            rw [HMD.out] at hcc
            go_wp2_with (first
              | (go_at_call 19; with_reducible refine (len_any w1.heap.size g3 t.size t.offers _ HWj.out).mono ?_; rintro e w' ⟨rfl, rfl⟩))
            go_roundw
            case rel => exact ⟨k + 1, md, back + t.res.length + t.ids.length, lastAt f' last t.res t.res.length, t.size, t.offers, g3, f', by omega, by rw [HMD.out], rfl, rfl, by go_num, Lib.hid HOO.out.next, HWj.out, hgb3, by rw [HT.out]; exact okL_step HOK.out, HMf.out.below HBJ.out, HBz.out.trans (HBJ.out.mono HBz.out.size)⟩
            case measure => simp [intOf]; omega
      · have HO : Hid (OnceS k made back last f t) := Lib.hid (by rw [HT.out]; exact once_other HI.out HOK.out (by rw [← HT.out]; exact hA))
        by_cases hk0 : knd l[k] = 0
        · have hb0 : ((knd l[k] : Int) == 0) = true := by simp [hk0]
          have he0 : (t.err == 0) = false := by rw [beq_eq_false_iff_ne]; exact fun e => hA ⟨hk0, e⟩
          clear hA hk0
          go_wp2_with (first
            | (with_reducible refine at_dst 48 ?_; refine wpList_load_cells rfl 51 _ rfl g (off + k * 34) (opc l[k]) rfl _ Try.underlying51 rfl (by rw [opc_len]; exact size51) (fun j u hu => HC.out j u hu) ?_)
            | (go_at_call 23; with_reducible refine (perform_any w1.heap.size g' sk lk l[k] wr HW.out (by omega) hgb HOK.out).mono ?_; intro e w3 hpp; rw [← HT.out] at hpp; unfold PPost at hpp; obtain ⟨v1, v2, he, ho1, ho2, hg3, g3, hw3, hgb3⟩ := hpp; subst he; obtain ⟨A1, c1, rfl⟩ := own_slice ho1; obtain ⟨A2, c2, rfl⟩ := own_slice ho2; have HO1 := Lib.hid ho1; have HW3 := Lib.hid hw3; have HMI3 := Lib.hid (HMI.out.kept hg3 (by have := HBM.out; simp; omega)); have HB3 := Lib.hid (HB.out.grown hg3 HB.out.size (fun x hx => by have := HBW.out; simp at hx; omega)); have hbop := HBW.out; have hc0 : w3.cell? ⟨g, off + k * 34, none⟩ = some (.int .u8 l[k].kind.toNat) := (by have h0 := hg3.cell (HC.out 0 _ (opc_0 _)) (by simp; omega); simpa using h0); have HC3 : Hid (∀ j u, (opc l[k])[j]? = some u → w3.cell? ⟨g, off + k * 34 + j, none⟩ = some u) := Lib.hid (fun j u hu => hg3.cell (HC.out j u hu) (by simp; omega)); clear ho1 ho2 hg3 hw3)
            | (with_reducible refine at_dst 69 ?_; refine wpList_load_cells rfl 37 _ rfl g (off + k * 34 + 1) (idc l[k].id) rfl _ Try.underlying37 rfl (sz_id _) (fun j u hu => ?_) ?_; (have hj : j < 32 := by (have := (List.getElem?_eq_some_iff.1 hu).1; rwa [idc_len] at this)); (rw [Nat.add_assoc]; exact HC3.out (1 + j) u (by rw [opc_id _ j hj]; exact hu)))
            | (with_reducible refine at_mapupd ?_; refine wpList_mapput rfl (.tmp 64) (.tmp 69) (.tmp 70) rfl w2.heap.size k f HMI3.out (by simp only [maxLen]; omega) l[k].id k (wf_small (by omega)) rfl rfl rfl ?_; intro w4 hm4 hg4; have HM4 := Lib.hid hm4; have HG4 := Lib.hid hg4; clear hm4 hg4))
          have HMz := Lib.hid (HMI3.out.mono (Nat.le_succ k))
          have HWz := HW3
          have HOz := HO1
          have HBz := HB3
          obtain ⟨q1, hr1, _, _⟩ := Rd.own HOz.out
          have HR1 := Lib.hid hr1
          obtain ⟨md, hmd⟩ : ∃ md : Int, md = made := ⟨_, rfl⟩
          obtain ⟨f', hf'⟩ : ∃ f', f' = f := ⟨_, rfl⟩
          have HMD := Lib.hid hmd
          have HFF := Lib.hid hf'
          have ho1 := HO.out
          rw [← HMD.out, ← HFF.out] at ho1
          have hmz := HMz.out
          rw [← HFF.out] at hmz
          have HMf := Lib.hid hmz
          have HOO := Lib.hid ho1
          have hn1 := ho1.next.cnt
          have hn2 := ho1.next.mi
          have hn3 : md ≤ k + 1 := by simpa using hn2
          have hcnt : (md != back + (t.res.length : Int) + (t.ids.length : Int) + (t.offers.length : Int)) = false := by simp; omega
          have hbz : back + (t.res.length : Int) + (t.ids.length : Int) + (t.offers.length : Int) ≤ 101 := by omega
          have HCNT := Lib.hid hcnt
          clear hr1 ho1 hmz hmd hf' hn1 hn2 hcnt
          go_loopw [8, 10, 15] (fun bv lv jv wr => ∃ j : Nat, j ≤ t.res.length ∧ jv = .int .i64 j ∧ bv = .int .i64 (back + j) ∧ lv = .int .i64 (lastAt f' last t.res j) ∧ Below w3.heap.size w3 wr) (fun _ _ jv _ => t.res.length - (intOf jv).toNat)
          case atStart => exact ⟨0, by omega, rfl, by simp, rfl, Below.refl _ _⟩
          case round =>
            obtain ⟨j, hj, rfl, rfl, rfl, hbj⟩ := hrel
            have HBJ := Lib.hid hbj
            clear hbj
            by_cases hltj : j < t.res.length
            · obtain ⟨hq, offr, rfl, hcr⟩ := (HR1.out.below HBJ.out).elem resc_len hltj rfl
              obtain ⟨hl1, hl2, hl3⟩ := HOO.out.res j hltj
              have hls := lastAt_succ f' last t.res j hltj
              have HLS := Lib.hid hls
              obtain ⟨la, hla⟩ : ∃ la, la = lastAt f' last t.res j := ⟨_, rfl⟩
              have HCR := Lib.hid hcr
              have h32 := hcr 32 _ (resc_32 _)
              have HLA := Lib.hid hla
              clear hls hcr hla
              go_wp2_with (first
                | (with_reducible refine at_dst 84 ?_; refine wpList_load_cells rfl 37 _ rfl q1 (offr + j * 33) (idc t.res[j].id) rfl _ Try.underlying37 rfl (sz_id _) (fun x u hu => ?_) ?_; (have hj32 : x < 32 := by (have := (List.getElem?_eq_some_iff.1 hu).1; rwa [idc_len] at this)); (exact HCR.out x u (by rw [resc_id _ x hj32]; exact hu)))
                | (with_reducible refine at_dst 85 ?_; refine wpList_mapget (by simp [Region.wanted, yielded]) (.tmp 79) (.tmp 84) rfl w2.heap.size (k + 1) f' (HMf.out.below HBJ.out) t.res[j].id rfl rfl ?_)
                | (with_reducible refine at_dst 109 ?_; refine wpList_load_cells rfl 37 _ rfl q1 (offr + j * 33) (idc t.res[j].id) rfl _ Try.underlying37 rfl (sz_id _) (fun x u hu => ?_) ?_; (have hj32 : x < 32 := by (have := (List.getElem?_eq_some_iff.1 hu).1; rwa [idc_len] at this)); (exact HCR.out x u (by rw [resc_id _ x hj32]; exact hu)))
                | (with_reducible refine at_dst 110 ?_; refine wpList_mapget (by simp [Region.wanted, yielded]) (.tmp 104) (.tmp 109) rfl w2.heap.size (k + 1) f' (HMf.out.below HBJ.out) t.res[j].id rfl rfl ?_))
              go_roundw
              case rel => exact ⟨j + 1, by omega, by go_num, by first | (simp; done) | (simp; omega), by rw [HLS.out], HBJ.out⟩
              case measure => simp [intOf]; omega
            · obtain rfl : j = t.res.length := by omega
              have HWj := Lib.hid (HWz.out.below HBJ.out)
              have hcc := HCNT.out
              rw [HMD.out] at hcc
              go_wp2_with (first
                | (go_at_call 19; with_reducible refine (len_any w1.heap.size g3 t.size t.offers _ HWj.out).mono ?_; rintro e w' ⟨rfl, rfl⟩))
              go_roundw
              case rel => exact ⟨k + 1, md, back + t.res.length + t.ids.length, lastAt f' last t.res t.res.length, t.size, t.offers, g3, f', by omega, by rw [HMD.out], rfl, rfl, by go_num, Lib.hid HOO.out.next, HWj.out, hgb3, by rw [HT.out]; exact okL_step HOK.out, HMf.out.below HBJ.out, HBz.out.trans (HBJ.out.mono HBz.out.size)⟩
              case measure => simp [intOf]; omega
        · have hb0 : ((knd l[k] : Int) == 0) = false := by rw [beq_eq_false_iff_ne]; omega
          clear hA hk0
          go_wp2_with (first
            | (with_reducible refine at_dst 48 ?_; refine wpList_load_cells rfl 51 _ rfl g (off + k * 34) (opc l[k]) rfl _ Try.underlying51 rfl (by rw [opc_len]; exact size51) (fun j u hu => HC.out j u hu) ?_)
            | (go_at_call 23; with_reducible refine (perform_any w1.heap.size g' sk lk l[k] wr HW.out (by omega) hgb HOK.out).mono ?_; intro e w3 hpp; rw [← HT.out] at hpp; unfold PPost at hpp; obtain ⟨v1, v2, he, ho1, ho2, hg3, g3, hw3, hgb3⟩ := hpp; subst he; obtain ⟨A1, c1, rfl⟩ := own_slice ho1; obtain ⟨A2, c2, rfl⟩ := own_slice ho2; have HO1 := Lib.hid ho1; have HW3 := Lib.hid hw3; have HMI3 := Lib.hid (HMI.out.kept hg3 (by have := HBM.out; simp; omega)); have HB3 := Lib.hid (HB.out.grown hg3 HB.out.size (fun x hx => by have := HBW.out; simp at hx; omega)); have hbop := HBW.out; have hc0 : w3.cell? ⟨g, off + k * 34, none⟩ = some (.int .u8 l[k].kind.toNat) := (by have h0 := hg3.cell (HC.out 0 _ (opc_0 _)) (by simp; omega); simpa using h0); have HC3 : Hid (∀ j u, (opc l[k])[j]? = some u → w3.cell? ⟨g, off + k * 34 + j, none⟩ = some u) := Lib.hid (fun j u hu => hg3.cell (HC.out j u hu) (by simp; omega)); clear ho1 ho2 hg3 hw3)
            | (with_reducible refine at_dst 69 ?_; refine wpList_load_cells rfl 37 _ rfl g (off + k * 34 + 1) (idc l[k].id) rfl _ Try.underlying37 rfl (sz_id _) (fun j u hu => ?_) ?_; (have hj : j < 32 := by (have := (List.getElem?_eq_some_iff.1 hu).1; rwa [idc_len] at this)); (rw [Nat.add_assoc]; exact HC3.out (1 + j) u (by rw [opc_id _ j hj]; exact hu)))
            | (with_reducible refine at_mapupd ?_; refine wpList_mapput rfl (.tmp 64) (.tmp 69) (.tmp 70) rfl w2.heap.size k f HMI3.out (by simp only [maxLen]; omega) l[k].id k (wf_small (by omega)) rfl rfl rfl ?_; intro w4 hm4 hg4; have HM4 := Lib.hid hm4; have HG4 := Lib.hid hg4; clear hm4 hg4))
          have HMz := Lib.hid (HMI3.out.mono (Nat.le_succ k))
          have HWz := HW3
          have HOz := HO1
          have HBz := HB3
          obtain ⟨q1, hr1, _, _⟩ := Rd.own HOz.out
          have HR1 := Lib.hid hr1
          obtain ⟨md, hmd⟩ : ∃ md : Int, md = made := ⟨_, rfl⟩
          obtain ⟨f', hf'⟩ : ∃ f', f' = f := ⟨_, rfl⟩
          have HMD := Lib.hid hmd
          have HFF := Lib.hid hf'
          have ho1 := HO.out
          rw [← HMD.out, ← HFF.out] at ho1
          have hmz := HMz.out
          rw [← HFF.out] at hmz
          have HMf := Lib.hid hmz
          have HOO := Lib.hid ho1
          have hn1 := ho1.next.cnt
          have hn2 := ho1.next.mi
          have hn3 : md ≤ k + 1 := by simpa using hn2
          have hcnt : (md != back + (t.res.length : Int) + (t.ids.length : Int) + (t.offers.length : Int)) = false := by simp; omega
          have hbz : back + (t.res.length : Int) + (t.ids.length : Int) + (t.offers.length : Int) ≤ 101 := by omega
          have HCNT := Lib.hid hcnt
          clear hr1 ho1 hmz hmd hf' hn1 hn2 hcnt
          go_loopw [8, 10, 15] (fun bv lv jv wr => ∃ j : Nat, j ≤ t.res.length ∧ jv = .int .i64 j ∧ bv = .int .i64 (back + j) ∧ lv = .int .i64 (lastAt f' last t.res j) ∧ Below w3.heap.size w3 wr) (fun _ _ jv _ => t.res.length - (intOf jv).toNat)
          case atStart => exact ⟨0, by omega, rfl, by simp, rfl, Below.refl _ _⟩
          case round =>
            obtain ⟨j, hj, rfl, rfl, rfl, hbj⟩ := hrel
            have HBJ := Lib.hid hbj
            clear hbj
            by_cases hltj : j < t.res.length
            · obtain ⟨hq, offr, rfl, hcr⟩ := (HR1.out.below HBJ.out).elem resc_len hltj rfl
              obtain ⟨hl1, hl2, hl3⟩ := HOO.out.res j hltj
              have hls := lastAt_succ f' last t.res j hltj
              have HLS := Lib.hid hls
              obtain ⟨la, hla⟩ : ∃ la, la = lastAt f' last t.res j := ⟨_, rfl⟩
              have HCR := Lib.hid hcr
              have h32 := hcr 32 _ (resc_32 _)
              have HLA := Lib.hid hla
              clear hls hcr hla
              go_wp2_with (first
                | (with_reducible refine at_dst 84 ?_; refine wpList_load_cells rfl 37 _ rfl q1 (offr + j * 33) (idc t.res[j].id) rfl _ Try.underlying37 rfl (sz_id _) (fun x u hu => ?_) ?_; (have hj32 : x < 32 := by (have := (List.getElem?_eq_some_iff.1 hu).1; rwa [idc_len] at this)); (exact HCR.out x u (by rw [resc_id _ x hj32]; exact hu)))
                | (with_reducible refine at_dst 85 ?_; refine wpList_mapget (by simp [Region.wanted, yielded]) (.tmp 79) (.tmp 84) rfl w2.heap.size (k + 1) f' (HMf.out.below HBJ.out) t.res[j].id rfl rfl ?_)
                | (with_reducible refine at_dst 109 ?_; refine wpList_load_cells rfl 37 _ rfl q1 (offr + j * 33) (idc t.res[j].id) rfl _ Try.underlying37 rfl (sz_id _) (fun x u hu => ?_) ?_; (have hj32 : x < 32 := by (have := (List.getElem?_eq_some_iff.1 hu).1; rwa [idc_len] at this)); (exact HCR.out x u (by rw [resc_id _ x hj32]; exact hu)))
                | (with_reducible refine at_dst 110 ?_; refine wpList_mapget (by simp [Region.wanted, yielded]) (.tmp 104) (.tmp 109) rfl w2.heap.size (k + 1) f' (HMf.out.below HBJ.out) t.res[j].id rfl rfl ?_))
              go_roundw
              case rel => exact ⟨j + 1, by omega, by go_num, by first | (simp; done) | (simp; omega), by rw [HLS.out], HBJ.out⟩
              case measure => simp [intOf]; omega
            · obtain rfl : j = t.res.length := by omega
              have HWj := Lib.hid (HWz.out.below HBJ.out)
              have hcc := HCNT.out
              rw [HMD.out] at hcc
              go_wp2_with (first
                | (go_at_call 19; with_reducible refine (len_any w1.heap.size g3 t.size t.offers _ HWj.out).mono ?_; rintro e w' ⟨rfl, rfl⟩))
              go_roundw
              case rel => exact ⟨k + 1, md, back + t.res.length + t.ids.length, lastAt f' last t.res t.res.length, t.size, t.offers, g3, f', by omega, by rw [HMD.out], rfl, rfl, by go_num, Lib.hid HOO.out.next, HWj.out, hgb3, by rw [HT.out]; exact okL_step HOK.out, HMf.out.below HBJ.out, HBz.out.trans (HBJ.out.mono HBz.out.size)⟩
              case measure => simp [intOf]; omega
    · go_wp2_with fail
      go_ret
      exact ⟨rfl, HB.out⟩
theorem once_any (n : Int) (l : List Op') (g c : Nat) (A : Option Addr) (w : World) (hr : Rd w g 34 A l.length (l.flatMap opc)) (hl : l.length ≤ maxLen) :
    Calls Try.prog 6 #[.int .i64 n, .slice A l.length c] w fun e w' => e = .returned (.bool true) ∧ Below w.heap.size w w' := by
  by_cases h : l.length ≤ 100
  · exact once_walk n l g c A w hr h
  · exact once_long n l g c A w hl (by omega)
end Go.Proofs.Ytbcejdmgdgghfaa
