/- The line: split, window's predicate, IndexFunc, window. Conditions: the period and the minute are whole numbers that cannot run over. -/
import Derived.Test.YtnddahajfcmkiaaLa
namespace Go.Proofs.Ytnddahajfcmkiaa
set_option linter.unusedSimpArgs false
set_option linter.unusedVariables false
set_option linter.unnecessarySimpa false
open Go.RowKit

def splitB (p m : Int) : Int := if p = 0 then 0 else m - m % p
def splitR (p m : Int) : Int := if p = 0 then m else m % p

set_option maxHeartbeats 1000000 in
theorem split_any (r d p m : Int) (n cap : Nat) (A : Option Addr) (w : World) (hp0 : 0 ≤ p) (hm0 : 0 ≤ m) (hm1 : m ≤ 9223372036854775807) :
    Calls Try.prog 60 #[.agg #[.int .i64 r, .int .i64 d, .int .i64 p, .slice A n cap], .int .i64 m] w fun e w' => e = .returned (.tuple #[.int .i64 (splitB p m), .int .i64 (splitR p m)]) ∧ Below w.heap.size w w' := by
  have hb := bnew w (.cells #[.int .i64 r, .int .i64 d, .int .i64 p, .slice A n cap] 35)
  have HB := Lib.hid hb
  have HP := Lib.hid (Blk.new w 35 #[.int .i64 r, .int .i64 d, .int .i64 p, .slice A n cap])
  clear hb
  by_cases h : p = 0
  · subst h
    go_enter Try.func60, Try.ntmps60
    go_wp2
    go_ret2
    exact ⟨rfl, HB.out⟩
  · have e1 : splitB p m = m - m % p := by simp [splitB, h]
    have e2 : splitR p m = m % p := by simp [splitR, h]
    rw [e1, e2]
    have hq1 : m.tmod p = m % p := Int.tmod_eq_emod_of_nonneg hm0
    have hq2 : 0 ≤ m % p := Int.emod_nonneg _ h
    have hq3 : m % p < p := Int.emod_lt_of_pos _ (by omega)
    have hq4 : m % p ≤ m := by
      have h0 : m % p + p * (m / p) = m := Int.emod_add_mul_ediv m p
      have h1 : 0 ≤ m / p := Int.ediv_nonneg hm0 hp0
      have h2 : 0 ≤ p * (m / p) := Int.mul_nonneg hp0 h1
      omega
    obtain ⟨q, hq⟩ : ∃ q, q = m % p := ⟨_, rfl⟩
    rw [← hq] at hq1 hq2 hq3 hq4 ⊢
    have HQ := Lib.hid hq1
    have HW : Hid (IntKind.i64.wrap (m - q) = m - q) := Lib.hid (IntWalk.i64_in _ (by omega))
    clear hq e1 e2 hq1
    go_enter Try.func60, Try.ntmps60
    go_wp2
    refine wp_region_seq (nt := 20) (by kernel_rfl) [0,1,2,3,4,5,6,7,8,9,10,11] [] Rb Rb.refl Rb.trans [] (by kernel_rfl) (by simp) rfl (by kernel_rfl) (by simp) trivial ?_
    (refine' Sq.det (E := _) (b := _) (by rfl) (by rfl) (by rfl) (fun w' hR hf => ?_) ?_ ?_; rotate_left 2; (· (go_simp; first | done | with_reducible rfl)); (· (simp only [Act.put, List.setIfInBounds_toArray, List.set_cons_zero, List.set_cons_succ]; first | done | rfl)))
    (refine' Sq.det (E := _) (b := _) (by rfl) (by rfl) (by rfl) (fun w' hR hf => ?_) ?_ ?_; rotate_left 2; (· (go_simp; first | done | with_reducible rfl)); (· (simp only [Act.put, List.setIfInBounds_toArray, List.set_cons_zero, List.set_cons_succ]; first | done | rfl)))
    (refine' Sq.det (E := _) (b := _) (by rfl) (by rfl) (by rfl) (fun w' hR hf => ?_) ?_ ?_; rotate_left 2; (· (go_simp; first | done | with_reducible rfl)); (· (simp only [Act.put, List.setIfInBounds_toArray, List.set_cons_zero, List.set_cons_succ]; first | done | rfl)))
    (refine' Sq.det (E := _) (b := _) (by rfl) (by rfl) (by rfl) (fun w' hR hf => ?_) ?_ ?_; rotate_left 2; (· (have hc : w'.cell? ⟨w.heap.size, 2, none⟩ = some (.int .i64 p) := (HP.out.below (below_undrew hR)).cell 2; go_simp; first | done | with_reducible rfl)); (· (simp only [Act.put, List.setIfInBounds_toArray, List.set_cons_zero, List.set_cons_succ]; first | done | rfl)))
    (refine' Sq.det (E := _) (b := _) (by rfl) (by rfl) (by rfl) (fun w' hR hf => ?_) ?_ ?_; rotate_left 2; (· (have hc := HQ.out; go_simp; first | done | with_reducible rfl)); (· (simp only [Act.put, List.setIfInBounds_toArray, List.set_cons_zero, List.set_cons_succ]; first | done | rfl)))
    (refine' Sq.det (E := _) (b := _) (by rfl) (by rfl) (by rfl) (fun w' hR hf => ?_) ?_ ?_; rotate_left 2; (· (have hc := HW.out; go_simp; first | done | with_reducible rfl)); (· (simp only [Act.put, List.setIfInBounds_toArray, List.set_cons_zero, List.set_cons_succ]; first | done | rfl)))
    (refine' Sq.det (E := _) (b := _) (by rfl) (by rfl) (by rfl) (fun w' hR hf => ?_) ?_ ?_; rotate_left 2; (· (go_simp; first | done | with_reducible rfl)); (· (simp only [Act.put, List.setIfInBounds_toArray, List.set_cons_zero, List.set_cons_succ]; first | done | rfl)))
    (refine' Sq.det (E := _) (b := _) (by rfl) (by rfl) (by rfl) (fun w' hR hf => ?_) ?_ ?_; rotate_left 2; (· (go_simp; first | done | with_reducible rfl)); (· (simp only [Act.put, List.setIfInBounds_toArray, List.set_cons_zero, List.set_cons_succ]; first | done | rfl)))
    (refine' Sq.det (E := _) (b := _) (by rfl) (by rfl) (by rfl) (fun w' hR hf => ?_) ?_ ?_; rotate_left 2; (· (have hc : w'.cell? ⟨w.heap.size, 2, none⟩ = some (.int .i64 p) := (HP.out.below (below_undrew hR)).cell 2; go_simp; first | done | with_reducible rfl)); (· (simp only [Act.put, List.setIfInBounds_toArray, List.set_cons_zero, List.set_cons_succ]; first | done | rfl)))
    (refine' Sq.det (E := _) (b := _) (by rfl) (by rfl) (by rfl) (fun w' hR hf => ?_) ?_ ?_; rotate_left 2; (· (have hc := HQ.out; go_simp; first | done | with_reducible rfl)); (· (simp only [Act.put, List.setIfInBounds_toArray, List.set_cons_zero, List.set_cons_succ]; first | done | rfl)))
    (refine' Sq.det (E := _) (b := _) (by rfl) (by rfl) (by rfl) (fun w' hR hf => ?_) ?_ ?_; rotate_left 2; (· (go_simp; first | done | with_reducible rfl)); (· (simp only [Act.put, List.setIfInBounds_toArray, List.set_cons_zero, List.set_cons_succ]; first | done | rfl)))
    (refine' Sq.det (E := _) (b := _) (by rfl) (by rfl) (by rfl) (fun w' hR hf => ?_) ?_ ?_; rotate_left 2; (· (go_simp; first | done | with_reducible rfl)); (· (simp only [Act.put, List.setIfInBounds_toArray, List.set_cons_zero, List.set_cons_succ]; first | done | rfl)))
    refine Sq.done fun y hR _ => ?_
    have HY := Lib.hid (HB.out.trans' (below_undrew hR))
    clear hR
    go_wp2
    go_ret2
    exact ⟨rfl, HY.out⟩

/-- window's predicate: its captured variable holds the minute -/
def inW (q : Int) (x : Wn) : Bool := decide (x.lo ≤ q) && decide (q < x.hi)
theorem win1_any (x : Wn) (q : Int) (v : Nat) (w : World) (hv : Blk w v 3 #[.int .i64 q]) :
    Calls Try.prog 62 #[.agg (winc x).toArray, .pointer (some ⟨v, 0, none⟩)] w fun e w' => e = .returned (.bool (inW q x)) ∧ Below w.heap.size w w' := by
  obtain ⟨lo, hi⟩ := x
  have hb := bnew w (.cells #[.int .i64 lo, .int .i64 hi] 62)
  have HB := Lib.hid hb
  have hc : (w.alloc (.cells #[.int .i64 lo, .int .i64 hi] 62)).cell? ⟨v, 0, none⟩ = some (.int .i64 q) := (hv.alloc _).cell 0
  clear hb hv
  show Calls Try.prog 62 #[.agg #[.int .i64 lo, .int .i64 hi], .pointer (some ⟨v, 0, none⟩)] w fun e w' => e = .returned (.bool (decide (lo ≤ q) && decide (q < hi))) ∧ Below w.heap.size w w'
  by_cases h1 : lo ≤ q
  · by_cases h2 : q < hi
    · go_enter Try.func62, Try.ntmps62
      go_wp2
      go_ret
      exact ⟨by simp [h1, h2], HB.out⟩
    · go_enter Try.func62, Try.ntmps62
      go_wp2
      go_ret
      exact ⟨by simp [h1, h2], HB.out⟩
  · go_enter Try.func62, Try.ntmps62
    go_wp2
    go_ret
    exact ⟨by have h : ¬ lo ≤ q := by omega
              simp [h], HB.out⟩

set_option maxHeartbeats 400000 in
theorem idx_any (ws : List Wn) (q : Int) (v g c : Nat) (A : Option Addr) (w : World) (hA : Rd w g 2 A ws.length (ws.flatMap winc)) (hv : Blk w v 3 #[.int .i64 q]) (hl : ws.length ≤ 100000) :
    Calls Try.prog 61 #[.slice A ws.length c, .func (.func 62) #[] #[.pointer (some ⟨v, 0, none⟩)]] w fun e w' => e = .returned (.int .i64 (idxI (inW q) ws 0)) ∧ Below w.heap.size w w' := by
  have H1 := Lib.hid hA
  have HV := Lib.hid hv
  clear hA hv
  go_enter Try.func61, Try.ntmps61
  go_wp2_with fail
  go_loopw [8] (fun si wr => ∃ k : Nat, k ≤ ws.length ∧ si = .int .i64 k ∧ Hid (idxI (inW q) ws 0 = idxI (inW q) (ws.drop k) k) ∧ Below w.heap.size w wr) (fun i _ => ws.length - (intOf i).toNat)
  case atStart => exact ⟨0, by omega, rfl, Lib.hid rfl, Below.refl _ _⟩
  case round =>
    obtain ⟨k, hk, rfl, hix, hbw⟩ := hrel
    by_cases hlt : k < ws.length
    · obtain ⟨hg, off, rfl, hc⟩ := (H1.out.below hbw).elem winc_len hlt rfl
      have hd : ws.drop k = ws[k] :: ws.drop (k + 1) := List.drop_eq_getElem_cons hlt
      have hd' := hix.out
      rw [hd] at hd'
      have HD := Lib.hid hd'
      have HC := Lib.hid hc
      have HB := Lib.hid hbw
      have HQ := Lib.hid (HV.out.below hbw)
      clear hd hd' hix hc hg hbw
      cases hp : inW q ws[k]
      all_goals
        have HP := Lib.hid hp
        clear hp
        go_wp2_with (first
          | ((with_reducible refine at_dst 15 ?_); refine wpList_load_cells rfl 62 _ rfl g (off + k * 2) (winc ws[k]) rfl _ Try.underlying62 rfl size62 (fun j u hu => HC.out j u hu) ?_)
          | (go_at_call 62; refine (win1_any _ q v _ HQ.out).mono ?_; rintro e w1 ⟨he, hb1⟩; obtain rfl := he.trans (congrArg (fun b => Ending.returned (.bool b)) HP.out); clear he; have HB1 := Lib.hid hb1; clear hb1))
      · go_roundw
        case rel => exact ⟨k + 1, by omega, by go_num, Lib.hid (by rw [HD.out]; simp [idxI, HP.out]), HB.out.trans (HB1.out.mono HB.out.size)⟩
        case measure => simp [intOf]; omega
      · go_ret
        exact ⟨by rw [HD.out]; simp [idxI, HP.out], HB.out.trans (HB1.out.mono HB.out.size)⟩
    · have hd : ws.drop k = [] := List.drop_eq_nil_of_le (by omega)
      have hd' := hix.out
      rw [hd] at hd'
      have HD := Lib.hid hd'
      have HB := Lib.hid hbw
      clear hd hd' hix hbw
      go_wp2_with fail
      go_ret
      exact ⟨by rw [HD.out]; rfl, HB.out⟩
end Go.Proofs.Ytnddahajfcmkiaa
