/- The line: New. Conditions: at most 100,000 windows. -/
import Derived.Test.YtnddahajfcmkiaaLz
namespace Go.Proofs.Ytnddahajfcmkiaa
set_option linter.unusedSimpArgs false
set_option linter.unusedVariables false
set_option linter.unnecessarySimpa false
open Go.RowKit
theorem build87 (r d p : Int) (A : Option Addr) (n c : Nat) (w : World) : (Instr.build 87 #[(0, .agg #[.int .i64 r, .int .i64 d, .int .i64 p, .slice A n c])]).run Try.prog w
    = .ok (.agg #[.int .i64 r, .int .i64 d, .int .i64 p, .slice A n c, .int .i64 0, .bool false, .int .i64 0, .string ⟨#[]⟩, .slice none 0 0, .string ⟨#[]⟩, .string ⟨#[]⟩, .slice none 0 0, .string ⟨#[]⟩]) w := by kernel_rfl
theorem own_wn {w : World} {base n c : Nat} {A : Option Addr} {e : TypeId} {xs : List Value} (h : w.ownsRow base e 2 (.slice A n c) n xs) : ∃ g, Rd w g 2 A n xs ∧ n ≤ c ∧ (0 < n → base ≤ g) ∧ (0 < n → ∃ cs, Blk w g e cs) := by
  rcases h.2 with ⟨hv, hn⟩ | ⟨g, cap, cur, hv, hb, hg, hnc, _⟩
  · obtain ⟨g, h1, h2, h3⟩ := Rd.own h
    exact ⟨g, h1, h2, h3, fun h => absurd h (by omega)⟩
  · have hv' := hv
    injection hv with h1 h2 h3
    subst h1 h3
    refine ⟨g, ⟨h.1, fun hn => ⟨(Array.getElem?_eq_some_iff.1 hg).1, 0, rfl, fun j u hu => ?_⟩⟩, hnc, fun _ => hb, fun _ => ⟨cur, hg⟩⟩
    have := h.cells (g := g) rfl j u hu
    rwa [Addr.add_lit] at this
def newL (c : Cfg) : Ln := riseL ⟨c, 0, false, 0, ⟨⟨#[]⟩, [], ⟨#[]⟩⟩, ⟨⟨#[]⟩, [], ⟨#[]⟩⟩⟩
set_option maxRecDepth 20000 in
set_option maxHeartbeats 1000000 in
theorem new_bad (c : Cfg) (g cap : Nat) (A : Option Addr) (w : World) (k : Int) (hr : Rd w g 2 A c.ws.length (c.ws.flatMap winc)) (hl : c.ws.length ≤ maxLen) (hk : chkC c = k) (h0 : k ≠ 0) :
    Calls Try.prog 15 #[.agg (cfgc c A cap).toArray] w fun e w' => e = .returned (.tuple #[.pointer none, .int .i64 k]) ∧ Below w.heap.size w w' := by
  have HR := Lib.hid hr
  have hb := bnew w (.cells (cfgc c A cap).toArray 35)
  have HB := Lib.hid hb
  have HP := Lib.hid (Blk.new w 35 (cfgc c A cap).toArray)
  have HK := Lib.hid hk
  have hkb : (k == 0) = false := by simpa using h0
  clear hr hb hk
  go_enter Try.func15, Try.ntmps15
  go_wp2_with (first
    | ((with_reducible refine at_dst 6 ?_); (refine wpList_load_cells rfl 35 _ rfl w.heap.size 0 (cfgc c A cap) rfl _ Try.underlying35 rfl info35 (fun j u hu => ?_) ?_; (rw [Nat.zero_add, HP.out.cell, List.getElem?_toArray]; exact hu)))
    | (go_at_call 33; (refine (check_any c g A cap _ (HR.out.below HB.out) hl).mono ?_; rintro e y1 ⟨he, hb1⟩; rw [HK.out] at he; subst he; have HB2 := Lib.hid (HB.out.trans' hb1); have HP2 := Lib.hid (HP.out.below hb1); clear hb1)))
  go_ret2
  exact ⟨rfl, HB2.out⟩
theorem new_own {y1 y2 : World} {r d p : Int} {ws : List Wn} {A2 : Option Addr} {c2 s : Nat} {cs : Array Value} (ho : y2.ownsRow y1.heap.size 62 2 (.slice A2 ws.length c2) ws.length (ws.flatMap winc)) (hs : Blk y1 s 35 cs) (hb : Below y1.heap.size y1 y2) :
    ∃ gw, LnO ((y2.setCell ⟨s, 3, none⟩ (.slice A2 ws.length c2)).alloc (.cells #[.int .i64 r, .int .i64 d, .int .i64 p, .slice A2 ws.length c2, .int .i64 0, .bool false, .int .i64 0, .string ⟨#[]⟩, .slice none 0 0, .string ⟨#[]⟩, .string ⟨#[]⟩, .slice none 0 0, .string ⟨#[]⟩] 87)) y2.heap.size
      ⟨⟨r, d, p, ws⟩, 0, false, 0, ⟨⟨#[]⟩, [], ⟨#[]⟩⟩, ⟨⟨#[]⟩, [], ⟨#[]⟩⟩⟩ gw 0 0 A2 none none c2 0 0 ∧ (0 < ws.length → y1.heap.size ≤ gw) := by
  obtain ⟨gw, h1, h2, h3, h4⟩ := own_wn ho
  have hlt := hs.lt
  have hg := grownBy_setCell y2 s 3 (.slice A2 ws.length c2)
  have hne : 0 < ws.length → gw ≠ s := fun h => by have := h3 h; omega
  have hba := bnew (y2.setCell ⟨s, 3, none⟩ (.slice A2 ws.length c2)) (.cells #[.int .i64 r, .int .i64 d, .int .i64 p, .slice A2 ws.length c2, .int .i64 0, .bool false, .int .i64 0, .string ⟨#[]⟩, .slice none 0 0, .string ⟨#[]⟩, .string ⟨#[]⟩, .slice none 0 0, .string ⟨#[]⟩] 87)
  refine ⟨gw, ⟨?_, ?_, ?_, h2, OT.nil _ _, OT.nil _ _, fun h => absurd h (by omega)⟩, h3⟩
  · have := Blk.new (y2.setCell ⟨s, 3, none⟩ (.slice A2 ws.length c2)) 87 #[.int .i64 r, .int .i64 d, .int .i64 p, .slice A2 ws.length c2, .int .i64 0, .bool false, .int .i64 0, .string ⟨#[]⟩, .slice none 0 0, .string ⟨#[]⟩, .string ⟨#[]⟩, .slice none 0 0, .string ⟨#[]⟩]
    rwa [show (y2.setCell ⟨s, 3, none⟩ (.slice A2 ws.length c2)).heap.size = y2.heap.size from by simp] at this
  · rcases Nat.eq_zero_or_pos ws.length with he | he
    · have := h1
      rw [he] at this ⊢
      have e : ws.flatMap winc = [] := List.eq_nil_of_length_eq_zero (by simpa using this.1)
      rw [e]; exact Rd.nil _ _ _ _
    · exact (h1.grown hg (by simpa using hne he)).below hba
  · intro he
    obtain ⟨cs, hcs⟩ := h4 he
    exact ⟨cs, (hcs.grown hg (by simpa using hne he)).below hba⟩
def NewOk (F : Nat → Prop) (B : Nat) (c : Cfg) (w : World) (e : Ending) (w' : World) : Prop := ∃ b gw A cap, e = .returned (.tuple #[.pointer (some ⟨b, 0, none⟩), .int .i64 0]) ∧ POwn F B w' b (newL c) gw A cap ∧ Below w.heap.size w w' ∧ w.heap.size ≤ b ∧ (0 < c.ws.length → w.heap.size ≤ gw)
set_option maxRecDepth 20000 in
set_option maxHeartbeats 1000000 in
theorem new_ok (F : Nat → Prop) (B : Nat) (c : Cfg) (g cap : Nat) (A : Option Addr) (w : World) (hr : Rd w g 2 A c.ws.length (c.ws.flatMap winc)) (hl : c.ws.length ≤ maxLen) (hk : chkC c = 0) (hB : B ≤ w.heap.size) :
    Calls Try.prog 15 #[.agg (cfgc c A cap).toArray] w (NewOk F B c w) := by
  obtain ⟨r, d, p, ws⟩ := c
  have HR := Lib.hid hr
  have hb := bnew w (.cells (cfgc ⟨r, d, p, ws⟩ A cap).toArray 35)
  have HB := Lib.hid hb
  have HP := Lib.hid (Blk.new w 35 (cfgc ⟨r, d, p, ws⟩ A cap).toArray)
  have HK := Lib.hid hk
  have HL : Hid (ws.length ≤ 100000) := Lib.hid (Nat.le_trans (chk_ok hk).2.1 (by omega))
  clear hr hb hk
  go_enter Try.func15, Try.ntmps15
  go_wp2_with (first
    | ((with_reducible refine at_dst 6 ?_); (refine wpList_load_cells rfl 35 _ rfl w.heap.size 0 (cfgc ⟨r, d, p, ws⟩ A cap) rfl _ Try.underlying35 rfl info35 (fun j u hu => ?_) ?_; (rw [Nat.zero_add, HP.out.cell, List.getElem?_toArray]; exact hu)))
    | (go_at_call 33; (refine (check_any ⟨r, d, p, ws⟩ g A cap _ (HR.out.below HB.out) hl).mono ?_; rintro e y1 ⟨he, hb1⟩; rw [HK.out] at he; subst he; have HB2 := Lib.hid (HB.out.trans' hb1); have HP2 := Lib.hid (HP.out.below hb1); have hc3 : y1.cell? ⟨w.heap.size, 3, none⟩ = some (.slice A ws.length cap) := HP2.out.cell 3; clear hb1))
    | (go_at_call 41; (refine (wclone_any ws g cap A _ (HR.out.below HB2.out) HL.out).mono ?_; rintro e y2 ⟨v, rfl, ho, hb2⟩; obtain ⟨A2, c2, rfl⟩ := own_slice ho; have HO := Lib.hid ho; have HB3 := Lib.hid (HB2.out.trans' hb2); have HP3 := Lib.hid (HP2.out.below hb2); have hfz := HP3.out.frozen 3; have hc4 : y2.cell? ⟨w.heap.size, 3, none⟩ = some (.slice A ws.length cap) := HP3.out.cell 3; have HP4 := Lib.hid (HP3.out.set_ 3 (.slice A2 ws.length c2)); obtain ⟨gw, hln, hgw⟩ := new_own (r := r) (d := d) (p := p) ho HP2.out hb2; have HLN := Lib.hid hln; have HGW := Lib.hid hgw; clear hb2 ho hc3 hln hgw))
    | ((with_reducible refine at_dst 15 ?_); (refine wpList_load_cells rfl 35 _ rfl w.heap.size 0 [.int .i64 r, .int .i64 d, .int .i64 p, .slice A2 ws.length c2] rfl _ Try.underlying35 rfl info35 (fun j u hu => ?_) ?_; (rw [Nat.zero_add, HP4.out.cell, ← hu]; simp [cfgc])))
    | (go_at_call 42; (refine (rise_any HLN.out HK.out (show (0 : Int) ≤ 0 by decide) (show (0 : Int) ≤ 10000000 by decide) (show (0 : Int) ≤ 0 by decide) (show (0 : Int) ≤ 1000000000 by decide)).mono ?_; rintro e y4 ⟨rfl, h1, h2⟩; have H1 := Lib.hid h1; have H2 := Lib.hid h2; clear h1 h2)))
  go_ret2
  refine ⟨y2.heap.size, gw, A2, c2, rfl, ⟨0, 0, none, none, 0, 0, H1.out, .inr (Nat.le_trans hB HB3.out.size), fun h => absurd h (by omega), fun h => absurd h (by omega)⟩, ?_, HB3.out.size, fun h => Nat.le_trans HB2.out.size (HGW.out h)⟩
  have h2 := (grownBy_setCell y2 w.heap.size 3 (.slice A2 ws.length c2)).trans' ((bnew _ (.cells #[.int .i64 r, .int .i64 d, .int .i64 p, .slice A2 ws.length c2, .int .i64 0, .bool false, .int .i64 0, .string ⟨#[]⟩, .slice none 0 0, .string ⟨#[]⟩, .string ⟨#[]⟩, .slice none 0 0, .string ⟨#[]⟩] 87)).grownBy (some w.heap.size))
  have hs := HB3.out.size
  exact (HB3.out.grown h2 HB3.out.size (fun x hx => by simp at hx; omega)).grown H2.out (Nat.le_trans hs h2.size) (fun x hx => by simp at hx; omega)
end Go.Proofs.Ytnddahajfcmkiaa
