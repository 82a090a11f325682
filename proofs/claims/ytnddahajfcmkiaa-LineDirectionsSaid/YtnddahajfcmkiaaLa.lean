/- The line: descriptions as cells, Check. Conditions: none. -/
import Derived.Test.YtnddahajfcmkiaaGen
import Derived.Deep.Cut
namespace Go.Proofs.Ytnddahajfcmkiaa
set_option linter.unusedSimpArgs false
set_option linter.unusedVariables false
set_option linter.unnecessarySimpa false
open Go.RowKit

structure Wn where
  lo : Int
  hi : Int
instance : Inhabited Wn := ⟨⟨0, 0⟩⟩
def winc (x : Wn) : List Value := [.int .i64 x.lo, .int .i64 x.hi]
theorem winc_len (x : Wn) : (winc x).length = 2 := rfl
theorem oneCell_winc (x : Wn) : ∀ u ∈ winc x, u.oneCell' = true := by intro u h; simp [winc] at h; rcases h with rfl | rfl <;> rfl
structure Cfg where
  rate : Int
  delay : Int
  period : Int
  ws : List Wn
def mostC (p : Int) : Int := if p = 0 then 10000000 else p
def badW (most : Int) (x : Wn) : Prop := x.lo < 0 ∨ x.hi ≤ x.lo ∨ most < x.hi
instance (most : Int) (x : Wn) : Decidable (badW most x) := by unfold badW; exact inferInstance
def chkW (most : Int) : Int → List Wn → Int
  | _, [] => 0
  | last, x :: ws => if badW most x then 2 else if x.lo < last then 30 else chkW most x.hi ws
def badC (c : Cfg) : Prop := c.rate < 1 ∨ 1048576 < c.rate ∨ c.delay < 0 ∨ 1440 < c.delay ∨ c.period < 0 ∨ 10000000 < c.period
instance (c : Cfg) : Decidable (badC c) := by unfold badC; exact inferInstance
def chkC (c : Cfg) : Int := if badC c then 2 else if 32 < c.ws.length then 9 else chkW (mostC c.period) 0 c.ws
def cfgc (c : Cfg) (A : Option Addr) (cap : Nat) : List Value := [.int .i64 c.rate, .int .i64 c.delay, .int .i64 c.period, .slice A c.ws.length cap]
def z62 : Value := .agg #[.int .i64 0, .int .i64 0]
theorem info62 : (Try.prog.info? 62).map (fun i => (i.zero, i.size)) = some (some z62, 2) := by kernel_rfl
theorem size62 : (Try.prog.info? 62).map (·.size) = some 2 := by kernel_rfl

theorem check_bad (c : Cfg) (A : Option Addr) (cap : Nat) (w : World) (h : badC c) :
    Calls Try.prog 33 #[.agg (cfgc c A cap).toArray] w fun e w' => e = .returned (.int .i64 2) ∧ Below w.heap.size w w' := by
  obtain ⟨r, d, p, ws⟩ := c
  simp only [badC, cfgc] at h ⊢
  have HB := Lib.hid (bnew w (.cells #[.int .i64 r, .int .i64 d, .int .i64 p, .slice A ws.length cap] 35))
  by_cases h1 : r < 1
  · clear h
    go_enter Try.func33, Try.ntmps33
    go_wp2
    go_step3
    go_wp2
    try rw [Exit.noGoto_ret]
    go_ret
    exact ⟨rfl, HB.out⟩
  by_cases h2 : 1048576 < r
  · clear h
    go_enter Try.func33, Try.ntmps33
    go_wp2
    go_step3
    go_wp2
    try rw [Exit.noGoto_ret]
    go_ret
    exact ⟨rfl, HB.out⟩
  by_cases h3 : d < 0
  · clear h
    go_enter Try.func33, Try.ntmps33
    go_wp2
    go_step3
    go_wp2
    try rw [Exit.noGoto_ret]
    go_ret
    exact ⟨rfl, HB.out⟩
  by_cases h4 : 1440 < d
  · clear h
    go_enter Try.func33, Try.ntmps33
    go_wp2
    go_step3
    go_wp2
    try rw [Exit.noGoto_ret]
    go_ret
    exact ⟨rfl, HB.out⟩
  by_cases h5 : p < 0
  · clear h
    go_enter Try.func33, Try.ntmps33
    go_wp2
    go_step3
    go_wp2
    try rw [Exit.noGoto_ret]
    go_ret
    exact ⟨rfl, HB.out⟩
  have h6 : 10000000 < p := by omega
  clear h
  go_enter Try.func33, Try.ntmps33
  go_wp2
  go_step3
  go_wp2
  try rw [Exit.noGoto_ret]
  go_ret
  exact ⟨rfl, HB.out⟩
theorem check_long (c : Cfg) (A : Option Addr) (cap : Nat) (w : World) (h : ¬ badC c) (hl : 32 < c.ws.length) (hm : c.ws.length ≤ maxLen) :
    Calls Try.prog 33 #[.agg (cfgc c A cap).toArray] w fun e w' => e = .returned (.int .i64 9) ∧ Below w.heap.size w w' := by
  obtain ⟨r, d, p, ws⟩ := c
  simp only [badC, cfgc, not_or, Int.not_lt] at h hl hm ⊢
  obtain ⟨h1, h2, h3, h4, h5, h6⟩ := h
  have HB := Lib.hid (bnew w (.cells #[.int .i64 r, .int .i64 d, .int .i64 p, .slice A ws.length cap] 35))
  go_enter Try.func33, Try.ntmps33
  go_wp2
  go_step3
  go_wp2
  try rw [Exit.noGoto_ret]
  go_ret
  exact ⟨rfl, HB.out⟩
theorem chkW_drop {most last : Int} {ws : List Wn} {k : Nat} (hk : k < ws.length) : chkW most last (ws.drop k) = if badW most ws[k] then 2 else if ws[k].lo < last then 30 else chkW most ws[k].hi (ws.drop (k + 1)) := by
  rw [List.drop_eq_getElem_cons hk]; rfl
set_option maxRecDepth 20000 in
set_option maxHeartbeats 4000000 in
theorem check_walk (r d p most res : Int) (ws : List Wn) (g : Nat) (A : Option Addr) (cap : Nat) (w : World) (hr : Rd w g 2 A ws.length (ws.flatMap winc)) (h1 : 1 ≤ r) (h2 : r ≤ 1048576) (h3 : 0 ≤ d) (h4 : d ≤ 1440) (h5 : 0 ≤ p) (h6 : p ≤ 10000000) (hl : ws.length ≤ 32) (hmo : most = mostC p) (hres : chkW most 0 ws = res) :
    Calls Try.prog 33 #[.agg #[.int .i64 r, .int .i64 d, .int .i64 p, .slice A ws.length cap]] w fun e w' => e = .returned (.int .i64 res) ∧ Below w.heap.size w w' := by
  have HR := Lib.hid hr
  have HRES := Lib.hid hres
  by_cases hp : p = 0
  · subst hp
    have hb := bnew w (.cells #[.int .i64 r, .int .i64 d, .int .i64 0, .slice A ws.length cap] 35)
    have HB := Lib.hid hb
    clear hr hb hres
    obtain rfl : most = 10000000 := hmo
    try clear hmo
    go_enter Try.func33, Try.ntmps33
    go_wp2
    go_step3
    go_wp2
    go_step3
    go_wp2
    clear h1 h2 h3 h4 h5 h6
    go_loopw [4, 5, 47] (fun ev lv kv wr => ∃ (k : Nat) (last : Int), k ≤ ws.length ∧ ev = .int .i64 0 ∧ lv = .int .i64 last ∧ kv = .int .i64 k ∧ Hid (chkW (10000000) last (ws.drop k) = res) ∧ Hid (Below w.heap.size w wr)) (fun _ _ kv _ => ws.length - (intOf kv).toNat)
    case atStart => exact ⟨0, 0, by omega, rfl, rfl, rfl, HRES, HB⟩
    case round =>
      obtain ⟨k, last, hk, rfl, rfl, rfl, HC, HBR⟩ := hrel
      by_cases hlt : k < ws.length
      · obtain ⟨hg, off, rfl, hc⟩ := (HR.out.below HBR.out).elem winc_len hlt rfl
        have HC0 := Lib.hid hc
        have hd := chkW_drop (most := 10000000) (last := last) hlt
        rw [HC.out] at hd
        obtain ⟨lo, hlo⟩ : ∃ lo, lo = ws[k].lo := ⟨_, rfl⟩
        obtain ⟨hi, hhi⟩ : ∃ hi, hi = ws[k].hi := ⟨_, rfl⟩
        have hwc : winc ws[k] = [.int .i64 lo, .int .i64 hi] := by rw [hlo, hhi]; rfl
        have hbw : badW (10000000) ws[k] ↔ (lo < 0 ∨ hi ≤ lo ∨ 10000000 < hi) := by rw [hlo, hhi]; rfl
        rw [← hlo, ← hhi] at hd
        have HWC := Lib.hid hwc
        clear hc hwc hlo hhi
        by_cases hB : lo < 0 ∨ hi ≤ lo ∨ 10000000 < hi
        · rw [if_pos (hbw.2 hB)] at hd
          have HD := Lib.hid hd
          clear hd hbw
          rcases (by omega : lo < 0 ∨ (0 ≤ lo ∧ hi ≤ lo) ∨ (0 ≤ lo ∧ lo < hi ∧ 10000000 < hi)) with h1 | h1 | h1
          all_goals
            clear hB
            go_wp2_with (first
              | ((with_reducible refine at_dst 50 ?_); refine wpList_load_cells rfl 62 _ rfl g (off + k * 2) (winc ws[k]) rfl _ Try.underlying62 rfl size62 (fun j u hu => HC0.out j u hu) ?_; rw [HWC.out]))
            try rw [Exit.noGoto_ret]
            go_ret
            exact ⟨by rw [HD.out]; rfl, HBR.out.alloc HBR.out.size _⟩
        · rw [if_neg (fun h => hB (hbw.1 h))] at hd
          have h1 : 0 ≤ lo := by omega
          have h2 : lo < hi := by omega
          have h3 : hi ≤ 10000000 := by omega
          clear hB hbw
          by_cases hL : lo < last
          · rw [if_pos hL] at hd
            have HD := Lib.hid hd
            clear hd
            go_wp2_with (first
              | ((with_reducible refine at_dst 50 ?_); refine wpList_load_cells rfl 62 _ rfl g (off + k * 2) (winc ws[k]) rfl _ Try.underlying62 rfl size62 (fun j u hu => HC0.out j u hu) ?_; rw [HWC.out]))
            try rw [Exit.noGoto_ret]
            go_ret
            exact ⟨by rw [HD.out]; rfl, HBR.out.alloc HBR.out.size _⟩
          · rw [if_neg hL] at hd
            have HD := Lib.hid hd
            clear hd
            go_wp2_with (first
              | ((with_reducible refine at_dst 50 ?_); refine wpList_load_cells rfl 62 _ rfl g (off + k * 2) (winc ws[k]) rfl _ Try.underlying62 rfl size62 (fun j u hu => HC0.out j u hu) ?_; rw [HWC.out]))
            go_roundw
            case rel => exact ⟨k + 1, hi, by omega, rfl, rfl, by go_num, Lib.hid HD.out.symm, Lib.hid (HBR.out.alloc HBR.out.size _)⟩
            case measure => simp [intOf]; omega
      · obtain rfl : k = ws.length := by omega
        have hd := HC.out
        rw [List.drop_length] at hd
        have HD : Hid (res = 0) := Lib.hid hd.symm
        clear hd
        go_wp2
        try rw [Exit.noGoto_ret]
        go_ret
        exact ⟨by rw [HD.out]; rfl, HBR.out⟩
  · have hb := bnew w (.cells #[.int .i64 r, .int .i64 d, .int .i64 p, .slice A ws.length cap] 35)
    have HB := Lib.hid hb
    clear hr hb hres
    obtain rfl : most = p := by rw [hmo]; simp [mostC, hp]
    try clear hmo
    go_enter Try.func33, Try.ntmps33
    go_wp2
    go_step3
    go_wp2
    go_step3
    go_wp2
    rename_i hz _ _
    clear hz hp
    clear h1 h2 h3 h4 h5 h6
    go_loopw [4, 5, 47] (fun ev lv kv wr => ∃ (k : Nat) (last : Int), k ≤ ws.length ∧ ev = .int .i64 0 ∧ lv = .int .i64 last ∧ kv = .int .i64 k ∧ Hid (chkW (most) last (ws.drop k) = res) ∧ Hid (Below w.heap.size w wr)) (fun _ _ kv _ => ws.length - (intOf kv).toNat)
    case atStart => exact ⟨0, 0, by omega, rfl, rfl, rfl, HRES, HB⟩
    case round =>
      obtain ⟨k, last, hk, rfl, rfl, rfl, HC, HBR⟩ := hrel
      by_cases hlt : k < ws.length
      · obtain ⟨hg, off, rfl, hc⟩ := (HR.out.below HBR.out).elem winc_len hlt rfl
        have HC0 := Lib.hid hc
        have hd := chkW_drop (most := most) (last := last) hlt
        rw [HC.out] at hd
        obtain ⟨lo, hlo⟩ : ∃ lo, lo = ws[k].lo := ⟨_, rfl⟩
        obtain ⟨hi, hhi⟩ : ∃ hi, hi = ws[k].hi := ⟨_, rfl⟩
        have hwc : winc ws[k] = [.int .i64 lo, .int .i64 hi] := by rw [hlo, hhi]; rfl
        have hbw : badW (most) ws[k] ↔ (lo < 0 ∨ hi ≤ lo ∨ most < hi) := by rw [hlo, hhi]; rfl
        rw [← hlo, ← hhi] at hd
        have HWC := Lib.hid hwc
        clear hc hwc hlo hhi
        by_cases hB : lo < 0 ∨ hi ≤ lo ∨ most < hi
        · rw [if_pos (hbw.2 hB)] at hd
          have HD := Lib.hid hd
          clear hd hbw
          rcases (by omega : lo < 0 ∨ (0 ≤ lo ∧ hi ≤ lo) ∨ (0 ≤ lo ∧ lo < hi ∧ most < hi)) with h1 | h1 | h1
          all_goals
            clear hB
            go_wp2_with (first
              | ((with_reducible refine at_dst 50 ?_); refine wpList_load_cells rfl 62 _ rfl g (off + k * 2) (winc ws[k]) rfl _ Try.underlying62 rfl size62 (fun j u hu => HC0.out j u hu) ?_; rw [HWC.out]))
            try rw [Exit.noGoto_ret]
            go_ret
            exact ⟨by rw [HD.out]; rfl, HBR.out.alloc HBR.out.size _⟩
        · rw [if_neg (fun h => hB (hbw.1 h))] at hd
          have h1 : 0 ≤ lo := by omega
          have h2 : lo < hi := by omega
          have h3 : hi ≤ most := by omega
          clear hB hbw
          by_cases hL : lo < last
          · rw [if_pos hL] at hd
            have HD := Lib.hid hd
            clear hd
            go_wp2_with (first
              | ((with_reducible refine at_dst 50 ?_); refine wpList_load_cells rfl 62 _ rfl g (off + k * 2) (winc ws[k]) rfl _ Try.underlying62 rfl size62 (fun j u hu => HC0.out j u hu) ?_; rw [HWC.out]))
            try rw [Exit.noGoto_ret]
            go_ret
            exact ⟨by rw [HD.out]; rfl, HBR.out.alloc HBR.out.size _⟩
          · rw [if_neg hL] at hd
            have HD := Lib.hid hd
            clear hd
            go_wp2_with (first
              | ((with_reducible refine at_dst 50 ?_); refine wpList_load_cells rfl 62 _ rfl g (off + k * 2) (winc ws[k]) rfl _ Try.underlying62 rfl size62 (fun j u hu => HC0.out j u hu) ?_; rw [HWC.out]))
            go_roundw
            case rel => exact ⟨k + 1, hi, by omega, rfl, rfl, by go_num, Lib.hid HD.out.symm, Lib.hid (HBR.out.alloc HBR.out.size _)⟩
            case measure => simp [intOf]; omega
      · obtain rfl : k = ws.length := by omega
        have hd := HC.out
        rw [List.drop_length] at hd
        have HD : Hid (res = 0) := Lib.hid hd.symm
        clear hd
        go_wp2
        try rw [Exit.noGoto_ret]
        go_ret
        exact ⟨by rw [HD.out]; rfl, HBR.out⟩
theorem check_any (c : Cfg) (g : Nat) (A : Option Addr) (cap : Nat) (w : World) (hr : Rd w g 2 A c.ws.length (c.ws.flatMap winc)) (hm : c.ws.length ≤ maxLen) :
    Calls Try.prog 33 #[.agg (cfgc c A cap).toArray] w fun e w' => e = .returned (.int .i64 (chkC c)) ∧ Below w.heap.size w w' := by
  by_cases h : badC c
  · have e : chkC c = 2 := by simp [chkC, h]
    rw [e]; exact check_bad c A cap w h
  · by_cases hl : 32 < c.ws.length
    · have e : chkC c = 9 := by simp [chkC, h, hl]
      rw [e]; exact check_long c A cap w h hl hm
    · have e : chkC c = chkW (mostC c.period) 0 c.ws := by simp [chkC, h, hl]
      rw [e]
      simp only [badC, not_or, Int.not_lt] at h
      obtain ⟨h1, h2, h3, h4, h5, h6⟩ := h
      exact check_walk c.rate c.delay c.period _ _ c.ws g A cap w hr h1 h2 h3 h4 h5 h6 (by omega) rfl rfl
end Go.Proofs.Ytnddahajfcmkiaa
