/- The line: UnderWay. Conditions: the bytes under way are fewer than 2^40. -/
import Derived.Test.YtnddahajfcmkiaaLf
namespace Go.Proofs.Ytnddahajfcmkiaa
set_option linter.unusedSimpArgs false
set_option linter.unusedVariables false
set_option linter.unnecessarySimpa false
open Go.RowKit

def wayN (l : List Fl) : Nat := (l.map fun f => f.text.size).sum
theorem wayN_take {l : List Fl} {k : Nat} (hk : k < l.length) : wayN (l.take (k + 1)) = wayN (l.take k) + l[k].text.size := by
  unfold wayN
  rw [List.take_succ_eq_append_getElem hk, List.map_append, List.sum_append]
  simp only [List.map_cons, List.map_nil, List.sum_cons, List.sum_nil, Nat.add_zero]
theorem wayN_le (l : List Fl) (k : Nat) : wayN (l.take k) ≤ wayN l := by
  have h : wayN l = wayN (l.take k) + wayN (l.drop k) := by
    unfold wayN
    rw [← List.sum_append, ← List.map_append, List.take_append_drop]
  omega
set_option maxRecDepth 20000 in
set_option maxHeartbeats 2000000 in
theorem underway_any {w : World} {b gw g0 g1 c c0 c1 : Nat} {L : Ln} {A A0 A1 : Option Addr} (s : Int) (h : LnAt w b L gw g0 g1 A A0 A1 c c0 c1) (hw0 : wayN L.l.fl ≤ 1099511627776) (hw1 : wayN L.r.fl ≤ 1099511627776) (hl0 : L.l.fl.length ≤ 100000) (hl1 : L.r.fl.length ≤ 100000) :
    Calls Try.prog 29 #[.pointer (some ⟨b, 0, none⟩), .int .i64 s] w fun e w' => e = .returned (.int .i64 (if validS s then (wayN (L.ed s).fl : Int) else 0)) ∧ Below w.heap.size w w' := by
  by_cases h0 : s = 0
  · subst h0
    have HE : Hid ((if validS 0 then (wayN (L.ed 0).fl : Int) else 0) = wayN L.l.fl) := Lib.hid (by simp [validS, Ln.ed])
    rw [HE.out]
    have hc0 : w.cell? ⟨b, 8, none⟩ = some (.slice A0 L.l.fl.length c0) := h.blk.cell 8
    have HR := Lib.hid h.r0
    have HW := Lib.hid hw0
    clear h hw0 hw1
    go_enter Try.func29, Try.ntmps29
    have HVV : Hid (validS 0 = true) := Lib.hid (by simp [validS])
    go_wp2_with (go_at_call 49; refine (valid_any 0 w).mono ?_; rintro e w' ⟨he, rfl⟩; rw [HVV.out] at he; subst he)
    go_loopw [5, 23] (fun nv kv wr => ∃ k : Nat, k ≤ L.l.fl.length ∧ nv = .int .i64 (wayN (L.l.fl.take k) : Nat) ∧ kv = .int .i64 k ∧ Hid (Below w.heap.size w wr)) (fun _ kv _ => L.l.fl.length - (intOf kv).toNat)
    case atStart => exact ⟨0, by omega, rfl, rfl, Lib.hid (Below.refl _ _)⟩
    case round =>
      obtain ⟨k, hk, rfl, rfl, HB⟩ := hrel
      by_cases hlt : k < L.l.fl.length
      · obtain ⟨hg, off, rfl, hc⟩ := (HR.out.below HB.out).elem flc_len hlt rfl
        have HC := Lib.hid hc
        have htk := wayN_take hlt
        have hle := wayN_le L.l.fl (k + 1)
        have hw := HW.out
        obtain ⟨at_, hat⟩ : ∃ a, a = L.l.fl[k].at_ := ⟨_, rfl⟩
        obtain ⟨tx, htx⟩ : ∃ t, t = L.l.fl[k].text := ⟨_, rfl⟩
        have hfc : flc L.l.fl[k] = [.int .i64 at_, .string tx] := by rw [hat, htx]; rfl
        rw [← htx] at htk
        have HFC := Lib.hid hfc
        have HTK := Lib.hid htk
        obtain ⟨n0, hn0⟩ : ∃ n, n = wayN (L.l.fl.take k) := ⟨_, rfl⟩
        rw [← hn0] at htk ⊢
        have hsm : n0 + tx.size ≤ 1099511627776 := by omega
        have HN0 := Lib.hid hn0
        clear hc hat htx hfc hn0 htk hle hw
        go_wp2_with (first
          | ((with_reducible refine at_dst 26 ?_); refine wpList_load_cells rfl 95 _ rfl g0 (off + k * 2) (flc L.l.fl[k]) rfl _ Try.underlying95 rfl size95 (fun j u hu => HC.out j u hu) ?_; rw [HFC.out]))
        go_roundw
        case rel => exact ⟨k + 1, by omega, by rw [HTK.out, ← HN0.out]; go_num, by go_num, Lib.hid (HB.out.alloc HB.out.size _)⟩
        case measure => simp [intOf]; omega
      · obtain rfl : k = L.l.fl.length := by omega
        have he : wayN (L.l.fl.take L.l.fl.length) = wayN L.l.fl := by rw [List.take_length]
        rw [he]
        clear he
        go_wp2
        go_ret
        exact ⟨rfl, HB.out⟩
  · by_cases h1 : s = 1
    · subst h1
      have HE : Hid ((if validS 1 then (wayN (L.ed 1).fl : Int) else 0) = wayN L.r.fl) := Lib.hid (by simp [validS, Ln.ed])
      rw [HE.out]
      have hc0 : w.cell? ⟨b, 11, none⟩ = some (.slice A1 L.r.fl.length c1) := h.blk.cell 11
      have HR := Lib.hid h.r1
      have HW := Lib.hid hw1
      clear h hw0 hw1
      go_enter Try.func29, Try.ntmps29
      have HVV : Hid (validS 1 = true) := Lib.hid (by simp [validS])
      go_wp2_with (go_at_call 49; refine (valid_any 1 w).mono ?_; rintro e w' ⟨he, rfl⟩; rw [HVV.out] at he; subst he)
      go_loopw [5, 23] (fun nv kv wr => ∃ k : Nat, k ≤ L.r.fl.length ∧ nv = .int .i64 (wayN (L.r.fl.take k) : Nat) ∧ kv = .int .i64 k ∧ Hid (Below w.heap.size w wr)) (fun _ kv _ => L.r.fl.length - (intOf kv).toNat)
      case atStart => exact ⟨0, by omega, rfl, rfl, Lib.hid (Below.refl _ _)⟩
      case round =>
        obtain ⟨k, hk, rfl, rfl, HB⟩ := hrel
        by_cases hlt : k < L.r.fl.length
        · obtain ⟨hg, off, rfl, hc⟩ := (HR.out.below HB.out).elem flc_len hlt rfl
          have HC := Lib.hid hc
          have htk := wayN_take hlt
          have hle := wayN_le L.r.fl (k + 1)
          have hw := HW.out
          obtain ⟨at_, hat⟩ : ∃ a, a = L.r.fl[k].at_ := ⟨_, rfl⟩
          obtain ⟨tx, htx⟩ : ∃ t, t = L.r.fl[k].text := ⟨_, rfl⟩
          have hfc : flc L.r.fl[k] = [.int .i64 at_, .string tx] := by rw [hat, htx]; rfl
          rw [← htx] at htk
          have HFC := Lib.hid hfc
          have HTK := Lib.hid htk
          obtain ⟨n0, hn0⟩ : ∃ n, n = wayN (L.r.fl.take k) := ⟨_, rfl⟩
          rw [← hn0] at htk ⊢
          have hsm : n0 + tx.size ≤ 1099511627776 := by omega
          have HN0 := Lib.hid hn0
          clear hc hat htx hfc hn0 htk hle hw
          go_wp2_with (first
            | ((with_reducible refine at_dst 26 ?_); refine wpList_load_cells rfl 95 _ rfl g1 (off + k * 2) (flc L.r.fl[k]) rfl _ Try.underlying95 rfl size95 (fun j u hu => HC.out j u hu) ?_; rw [HFC.out]))
          go_roundw
          case rel => exact ⟨k + 1, by omega, by rw [HTK.out, ← HN0.out]; go_num, by go_num, Lib.hid (HB.out.alloc HB.out.size _)⟩
          case measure => simp [intOf]; omega
        · obtain rfl : k = L.r.fl.length := by omega
          have he : wayN (L.r.fl.take L.r.fl.length) = wayN L.r.fl := by rw [List.take_length]
          rw [he]
          clear he
          go_wp2
          go_ret
          exact ⟨rfl, HB.out⟩
    · have hv : validS s = false := by simp [validS, h0, h1]
      rw [hv]
      have HV := Lib.hid hv
      have HB := Lib.hid (Below.refl w.heap.size w)
      clear hv h0 h1
      go_enter Try.func29, Try.ntmps29
      go_wp2_with (go_at_call 49; refine (valid_any s w).mono ?_; rintro e w' ⟨he, rfl⟩; rw [HV.out] at he; subst he)
      go_ret
      exact ⟨rfl, HB.out⟩
end Go.Proofs.Ytnddahajfcmkiaa
