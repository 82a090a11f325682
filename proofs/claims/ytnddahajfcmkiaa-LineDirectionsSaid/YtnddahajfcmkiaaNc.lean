/- The law's known. Conditions: none. -/
import Derived.Test.YtnddahajfcmkiaaNb
namespace Go.Proofs.Ytnddahajfcmkiaa
set_option linter.unusedSimpArgs false
set_option linter.unusedVariables false
set_option linter.unnecessarySimpa false
open Go.RowKit
def kc : Cfg := ⟨10, 0, 60, [⟨0, 5⟩]⟩
def kt : ByteArray := ⟨#[97, 98, 99, 100, 101, 102, 103, 104, 105, 106, 107, 108, 109, 110, 111, 112, 113, 114, 115, 116, 117, 118, 119, 120, 121]⟩
def k0 : Ln := newL kc
def k1 : Ln := (sendL k0 0 kt).1
def k2 : Ln := (advL k1 1).1
def k3 : Ln := (recvL k2 1 100).1
def k4 : Ln := (advL k3 2).1
def k5 : Ln := (recvL k4 1 100).1
def k6 : Ln := (advL k5 2).1
def k7 : Ln := (advL k6 55).1
theorem kc_ok : chkC kc = 0 := by kernel_rfl
theorem k0_up : k0.up = true := by kernel_rfl
theorem k0_ses : k0.ses = 1 := by kernel_rfl
theorem k0_send : (sendL k0 0 kt).2 = 0 := by kernel_rfl
theorem k2_recv : (recvL k2 1 100).2 = (⟨#[97, 98, 99, 100, 101, 102, 103, 104, 105, 106]⟩, 0) := by kernel_rfl
theorem k4_recv : (recvL k4 1 100).2 = (⟨#[107, 108, 109, 110, 111, 112, 113, 114, 115, 116, 117, 118, 119, 120, 121]⟩, 0) := by kernel_rfl
theorem k6_up : k6.up = false := by kernel_rfl
theorem k6_now : k6.now = 5 := by kernel_rfl
theorem k7_up : k7.up = true := by kernel_rfl
theorem k7_ses : k7.ses = 2 := by kernel_rfl
theorem k7_now : k7.now = 60 := by kernel_rfl
theorem Keep.to_below {B : Nat} {w w' : World} (h : Keep (fun _ => False) B w w') (hB : B ≤ w.heap.size) : Below B w w' := ⟨h.os, h.tape, h.output, h.size, fun k hk => h.block k hk (by omega) id⟩
theorem below_step {B : Nat} {x w w' : World} (h : Below B x w) (hk : Keep (fun _ => False) B w w') (hB : B ≤ w.heap.size) : Below B x w' := h.trans (hk.to_below hB)
theorem k0_v : LnV k0 := new_v kc_ok
theorem kt_size : kt.size = 25 := rfl
theorem k0_tot : totL k0 = 0 := by kernel_rfl
theorem k1_v : LnV k1 := (send_v k0_v (by rw [k0_tot, kt_size]; omega)).1
theorem k2_v : LnV k2 := (adv_v k1_v).1
theorem k3_v : LnV k3 := (recv_v k2_v).1
theorem k4_v : LnV k4 := (adv_v k3_v).1
theorem k5_v : LnV k5 := (recv_v k4_v).1
theorem k6_v : LnV k6 := (adv_v k5_v).1
set_option maxRecDepth 20000 in
set_option maxHeartbeats 4000000 in
theorem known_any (w : World) : Calls Try.prog 17 #[] w fun e w' => e = .returned (.bool true) ∧ Below w.heap.size w w' := by
  have HR := Lib.hid (Blk.new w 62 #[.int .i64 0, .int .i64 5])
  have HB0 := Lib.hid (bnew w (.cells #[.int .i64 0, .int .i64 5] 62))
  go_enter Try.func17, Try.ntmps17
  go_wp2_with fail
  refine (new_ok (fun _ => False) w.heap.size kc w.heap.size 1 (some ⟨w.heap.size, 0, none⟩) _ (HR.out.rd (size := 2) (n := 1) (l := [.int .i64 0, .int .i64 5]) rfl) (by decide) kc_ok HB0.out.size).mono ?_
  rintro e w1 ⟨b, gw, A, cap, he, hp, hb, _, _⟩
  subst he
  have HPw1 : Hid (POwn (fun _ => False) w.heap.size w1 b k0 gw A cap) := Lib.hid hp
  have HBw1 := Lib.hid (HB0.out.trans' hb)
  clear hp hb
  go_wp2_with fail
  refine (p_up HPw1.out).mono ?_
  rintro e w' ⟨he, hw⟩
  subst hw
  rw [k0_up] at he
  subst he
  go_wp2_with fail
  refine (p_ses HPw1.out).mono ?_
  rintro e w' ⟨he, hw⟩
  subst hw
  rw [k0_ses] at he
  subst he
  go_wp2_with fail
  refine (p_send 0 kt HPw1.out k0_v (by rw [kt_size]; omega)).mono ?_
  rintro e w2 ⟨he, hp, hk⟩
  rw [k0_send] at he
  subst he
  have HPw2 : Hid (POwn (fun _ => False) w.heap.size w2 b k1 gw A cap) := Lib.hid hp
  have HBw2 := Lib.hid (below_step HBw1.out hk HBw1.out.size)
  clear hp hk
  go_wp2_with fail
  refine (p_adv 1 HPw2.out HBw2.out.size k1_v).mono ?_
  rintro e w3 ⟨he, hp, hk⟩
  skip
  subst he
  have HPw3 : Hid (POwn (fun _ => False) w.heap.size w3 b k2 gw A cap) := Lib.hid hp
  have HBw3 := Lib.hid (below_step HBw2.out hk HBw2.out.size)
  clear hp hk
  go_wp2_with fail
  refine (p_recv 1 100 HPw3.out).mono ?_
  rintro e w4 ⟨he, hp, hk⟩
  rw [k2_recv] at he
  subst he
  have HPw4 : Hid (POwn (fun _ => False) w.heap.size w4 b k3 gw A cap) := Lib.hid hp
  have HBw4 := Lib.hid (below_step HBw3.out hk HBw3.out.size)
  clear hp hk
  go_wp2_with fail
  refine (p_adv 2 HPw4.out HBw4.out.size k3_v).mono ?_
  rintro e w5 ⟨he, hp, hk⟩
  skip
  subst he
  have HPw5 : Hid (POwn (fun _ => False) w.heap.size w5 b k4 gw A cap) := Lib.hid hp
  have HBw5 := Lib.hid (below_step HBw4.out hk HBw4.out.size)
  clear hp hk
  go_wp2_with fail
  refine (p_recv 1 100 HPw5.out).mono ?_
  rintro e w6 ⟨he, hp, hk⟩
  rw [k4_recv] at he
  subst he
  have HPw6 : Hid (POwn (fun _ => False) w.heap.size w6 b k5 gw A cap) := Lib.hid hp
  have HBw6 := Lib.hid (below_step HBw5.out hk HBw5.out.size)
  clear hp hk
  go_wp2_with fail
  refine (p_adv 2 HPw6.out HBw6.out.size k5_v).mono ?_
  rintro e w7 ⟨he, hp, hk⟩
  skip
  subst he
  have HPw7 : Hid (POwn (fun _ => False) w.heap.size w7 b k6 gw A cap) := Lib.hid hp
  have HBw7 := Lib.hid (below_step HBw6.out hk HBw6.out.size)
  clear hp hk
  go_wp2_with fail
  refine (p_up HPw7.out).mono ?_
  rintro e w' ⟨he, hw⟩
  subst hw
  rw [k6_up] at he
  subst he
  go_wp2_with fail
  refine (p_now HPw7.out).mono ?_
  rintro e w' ⟨he, hw⟩
  subst hw
  rw [k6_now] at he
  subst he
  go_wp2_with fail
  refine (p_adv 55 HPw7.out HBw7.out.size k6_v).mono ?_
  rintro e w8 ⟨he, hp, hk⟩
  skip
  subst he
  have HPw8 : Hid (POwn (fun _ => False) w.heap.size w8 b k7 gw A cap) := Lib.hid hp
  have HBw8 := Lib.hid (below_step HBw7.out hk HBw7.out.size)
  clear hp hk
  go_wp2_with fail
  refine (p_up HPw8.out).mono ?_
  rintro e w' ⟨he, hw⟩
  subst hw
  rw [k7_up] at he
  subst he
  go_wp2_with fail
  refine (p_ses HPw8.out).mono ?_
  rintro e w' ⟨he, hw⟩
  subst hw
  rw [k7_ses] at he
  subst he
  go_wp2_with fail
  refine (p_now HPw8.out).mono ?_
  rintro e w' ⟨he, hw⟩
  subst hw
  rw [k7_now] at he
  subst he
  go_wp2_with fail
  go_ret
  exact ⟨rfl, HBw8.out⟩
end Go.Proofs.Ytnddahajfcmkiaa
