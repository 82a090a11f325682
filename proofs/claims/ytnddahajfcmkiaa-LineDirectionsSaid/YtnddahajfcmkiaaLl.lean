/- The line: idle. Conditions: none. -/
import Derived.Test.YtnddahajfcmkiaaLk
namespace Go.Proofs.Ytnddahajfcmkiaa
set_option linter.unusedSimpArgs false
set_option linter.unusedVariables false
set_option linter.unnecessarySimpa false
open Go.RowKit

def edc (e : Ed) (A : Option Addr) (c : Nat) : List Value := [.string e.wait, .slice A e.fl.length c, .string e.arr]
theorem size85 : (Try.prog.info? 85).map (·.size) = some 6 := by kernel_rfl
def idleE (s : ByteArray) (n : Nat) : Bool := decide (s.toList = []) && decide (n = 0)
def idleL (L : Ln) : Bool := idleE L.l.wait L.l.fl.length && idleE L.r.wait L.r.fl.length
set_option maxRecDepth 20000 in
set_option maxHeartbeats 2000000 in
theorem idle_walk (s0 s1 a0 a1 : ByteArray) (n0 n1 c0 c1 b : Nat) (A0 A1 : Option Addr) (res : Bool) (w : World) (h : ∀ j u, ([.string s0, .slice A0 n0 c0, .string a0, .string s1, .slice A1 n1 c1, .string a1] : List Value)[j]? = some u → w.cell? ⟨b, 7 + j, none⟩ = some u) (hres : res = (idleE s0 n0 && idleE s1 n1)) :
    Calls Try.prog 58 #[.pointer (some ⟨b, 0, none⟩)] w fun e w' => e = .returned (.bool res) ∧ Below w.heap.size w w' := by
  have HE := Lib.hid h
  have HRES := Lib.hid hres
  have i0 : ∀ w : World, (Instr.index 85 (.agg #[.string s0, .slice A0 n0 c0, .string a0, .string s1, .slice A1 n1 c1, .string a1]) (.int .i64 0)).run Try.prog w = .ok (.agg #[.string s0, .slice A0 n0 c0, .string a0]) w := fun _ => by kernel_rfl
  have i1 : ∀ w : World, (Instr.index 85 (.agg #[.string s0, .slice A0 n0 c0, .string a0, .string s1, .slice A1 n1 c1, .string a1]) (.int .i64 1)).run Try.prog w = .ok (.agg #[.string s1, .slice A1 n1 c1, .string a1]) w := fun _ => by kernel_rfl
  clear h hres
  go_enter Try.func58, Try.ntmps58
  go_wp2_with ((with_reducible refine at_dst 8 ?_); refine wpList_load_cells rfl 85 _ rfl b 7 [.string s0, .slice A0 n0 c0, .string a0, .string s1, .slice A1 n1 c1, .string a1] rfl _ Try.underlying85 rfl size85 (fun j u hu => HE.out j u hu) ?_)
  go_loopw [9] (fun kv wr => ∃ k : Nat, k ≤ 2 ∧ kv = .int .i64 k ∧ Hid (Below w.heap.size w wr) ∧ Hid ((0 < k → idleE s0 n0 = true) ∧ (1 < k → idleE s1 n1 = true))) (fun kv _ => 2 - (intOf kv).toNat)
  case atStart => exact ⟨0, by omega, rfl, Lib.hid (Below.refl _ _), Lib.hid ⟨fun h => by omega, fun h => by omega⟩⟩
  case round =>
    obtain ⟨k, hk, rfl, HB, HQ⟩ := hrel
    rcases (by omega : k = 0 ∨ k = 1 ∨ k = 2) with rfl | rfl | rfl
    · by_cases hs : s0.toList = []
      · by_cases hn : n0 = 0
        · have HID : Hid (idleE s0 n0 = true) := Lib.hid (by simp [idleE, hs, hn])
          subst hn
          go_wp2
          go_roundw
          case rel => exact ⟨1, by omega, rfl, Lib.hid (HB.out.alloc HB.out.size _), by exact Lib.hid ⟨fun _ => HID.out, fun h => by omega⟩⟩
          case measure => simp [intOf]
        · have HID : Hid (idleE s0 n0 = false) := Lib.hid (by simp [idleE, hn])
          go_wp2
          go_ret
          exact ⟨by rw [HRES.out, HID.out]; simp, HB.out.alloc HB.out.size _⟩
      · have HID : Hid (idleE s0 n0 = false) := Lib.hid (by simp [idleE, hs])
        go_wp2
        go_ret
        exact ⟨by rw [HRES.out, HID.out]; simp, HB.out.alloc HB.out.size _⟩
    · by_cases hs : s1.toList = []
      · by_cases hn : n1 = 0
        · have HID : Hid (idleE s1 n1 = true) := Lib.hid (by simp [idleE, hs, hn])
          subst hn
          go_wp2
          go_roundw
          case rel => exact ⟨2, by omega, rfl, Lib.hid (HB.out.alloc HB.out.size _), by exact Lib.hid ⟨fun _ => HQ.out.1 (by omega), fun _ => HID.out⟩⟩
          case measure => simp [intOf]
        · have HID : Hid (idleE s1 n1 = false) := Lib.hid (by simp [idleE, hn])
          go_wp2
          go_ret
          exact ⟨by rw [HRES.out, HID.out]; simp, HB.out.alloc HB.out.size _⟩
      · have HID : Hid (idleE s1 n1 = false) := Lib.hid (by simp [idleE, hs])
        go_wp2
        go_ret
        exact ⟨by rw [HRES.out, HID.out]; simp, HB.out.alloc HB.out.size _⟩
    · have e1 := HQ.out.1 (by omega)
      have e2 := HQ.out.2 (by omega)
      have HID : Hid (res = true) := Lib.hid (by rw [HRES.out, e1, e2]; rfl)
      clear e1 e2
      go_wp2
      go_ret
      exact ⟨by rw [HID.out]; rfl, HB.out⟩
theorem idle_any {w : World} {b gw g0 g1 c c0 c1 : Nat} {L : Ln} {A A0 A1 : Option Addr} (h : LnAt w b L gw g0 g1 A A0 A1 c c0 c1) :
    Calls Try.prog 58 #[.pointer (some ⟨b, 0, none⟩)] w fun e w' => e = .returned (.bool (idleL L)) ∧ Below w.heap.size w w' := by
  refine idle_walk L.l.wait L.r.wait L.l.arr L.r.arr L.l.fl.length L.r.fl.length c0 c1 b A0 A1 _ w (fun j u hu => ?_) rfl
  rw [h.blk.cell, List.getElem?_toArray]
  rw [show lnc L A A0 A1 c c0 c1 = [.int .i64 L.cfg.rate, .int .i64 L.cfg.delay, .int .i64 L.cfg.period, .slice A L.cfg.ws.length c, .int .i64 L.now, .bool L.up, .int .i64 L.ses] ++ [.string L.l.wait, .slice A0 L.l.fl.length c0, .string L.l.arr, .string L.r.wait, .slice A1 L.r.fl.length c1, .string L.r.arr] from rfl]
  rw [List.getElem?_append_right (by simp)]
  simpa using hu
end Go.Proofs.Ytnddahajfcmkiaa
