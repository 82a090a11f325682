/- The line: pass. Conditions: a valid line. -/
import Derived.Test.YtnddahajfcmkiaaLu
namespace Go.Proofs.Ytnddahajfcmkiaa
set_option linter.unusedSimpArgs false
set_option linter.unusedVariables false
set_option linter.unnecessarySimpa false
open Go.RowKit
def launchE (rate now delay : Int) (e : Ed) : Ed :=
  if e.wait.size = 0 then e else { e with wait := e.wait.extract (recN rate e.wait.size) e.wait.size, fl := e.fl ++ [⟨now + 1 + delay, e.wait.extract 0 (recN rate e.wait.size)⟩] }
def launchL (k : Nat) (L : Ln) : Ln :=
  { L with l := if 0 < k then launchE L.cfg.rate L.now L.cfg.delay L.l else L.l, r := if 1 < k then launchE L.cfg.rate L.now L.cfg.delay L.r else L.r }
/-- what the region that launches a flight may change: the cell of what waits, the room behind the flights -/
def RP (b g c n : Nat) (A : Option Addr) (xs : List Value) (cells : ByteArray → Array Value) (rest : ByteArray) (x y : World) : Prop :=
  y.os = x.os ∧ y.tape = x.tape ∧ y.output = x.output ∧ x.heap.size ≤ y.heap.size ∧ (∀ k, k < x.heap.size → k ≠ b → (0 < c → k ≠ g) → y.heap[k]? = x.heap[k]?) ∧
  (∀ s, Blk x b 87 (cells s) → ∃ s', Blk y b 87 (cells s') ∧ (s = rest → s' = rest)) ∧ (OT x g A (n + 1) c xs → OT y g A (n + 1) c xs)
section
variable {b g c n : Nat} {A : Option Addr} {xs : List Value} {cells : ByteArray → Array Value} {rest : ByteArray} {x y z : World}
theorem RP.refl (x : World) : RP b g c n A xs cells rest x x := ⟨rfl, rfl, rfl, Nat.le_refl _, fun _ _ _ _ => rfl, fun s h => ⟨s, h, id⟩, id⟩
theorem RP.trans (x y z : World) (h : RP b g c n A xs cells rest x y) (k : RP b g c n A xs cells rest y z) : RP b g c n A xs cells rest x z := by
  obtain ⟨h1, h2, h3, h4, h5, h6, h7⟩ := h
  obtain ⟨k1, k2, k3, k4, k5, k6, k7⟩ := k
  refine ⟨k1.trans h1, k2.trans h2, k3.trans h3, Nat.le_trans h4 k4, fun i hi hb hg => (k5 i (by omega) hb hg).trans (h5 i hi hb hg), fun s hs => ?_, fun h => k7 (h7 h)⟩
  obtain ⟨s', hs', e⟩ := h6 s hs
  obtain ⟨s2, hs2, e2⟩ := k6 s' hs'
  exact ⟨s2, hs2, fun h => e2 (e h)⟩
/-- new blocks alone -/
theorem RP.of_below (hg : 0 < c → g < x.heap.size) (h : Below x.heap.size x y) : RP b g c n A xs cells rest x y :=
  ⟨h.os, h.tape, h.output, h.size, fun k hk _ _ => h.block k hk, fun s hs => ⟨s, hs.below h, id⟩, fun ho => ho.keep fun hc => h.block g (hg hc)⟩
theorem RP.blk (h : RP b g c n A xs cells rest x y) {k : Nat} {t : TypeId} {cs : Array Value} (hb : Blk x k t cs) (h1 : k ≠ b) (h2 : 0 < c → k ≠ g) : Blk y k t cs := by
  obtain ⟨_, _, _, _, h5, _⟩ := h
  unfold Blk at hb ⊢
  rw [h5 k (by have := Blk.lt (w := x) hb; exact this) h1 h2]; exact hb
end
def P18 (b : Nat) (text rest : ByteArray) (cells : ByteArray → Array Value) (v : Value) (w : World) : Prop := v = .string text ∧ Blk w b 87 (cells rest)
def P20 (B : Nat) (f : Fl) (v : Value) (w : World) : Prop := ∃ q, v = .slice (some ⟨q, 0, none⟩) 1 1 ∧ B ≤ q ∧ Blk w q 95 (flc f).toArray
def P21 (B g n c : Nat) (A : Option Addr) (xs : List Value) (v : Value) (w : World) : Prop :=
  (0 < c ∧ v = .slice A (n + 1) c ∧ OT w g A (n + 1) c xs) ∨ ∃ g' A' c', v = .slice A' (n + 1) c' ∧ OT w g' A' (n + 1) c' xs ∧ B ≤ g'
def T8 (b g n c : Nat) (A : Option Addr) (xs : List Value) (full : Array Value) (i : Nat) (w : World) : Prop := (i = 18 → Blk w b 87 full) ∧ (i = 21 → OT w g A n c xs)
theorem fields95 (w : World) : ((Try.prog.fieldsOf 95).mapM (m := Sem) fun (f : Field) => do pure (f.offset, ← sizeOf f.type)).run Try.prog w = .ok #[(0, 1), (1, 1)] w := by kernel_rfl
theorem structs95 : Try.prog.underlying 95 = some (.struct (Try.prog.fieldsOf 95)) := by kernel_rfl
theorem exec_build95 {w : World} {ρ : Operand → Value} {dst : Option Tmp} {t : TypeId} {p : String} {af : Array Edge} {gd : Option (Nat × Bool)} (x z : Operand) (f : Fl) (hx : ρ x = .int .i64 f.at_) (hz : ρ z = .string f.text) :
    (execOp ρ ⟨dst, .build 95 #[(0, x), (1, z)], t, p, af, gd⟩).run Try.prog w = .ok (.value (.agg (flc f).toArray)) w := by
  obtain ⟨i0, hi0, hz0, _, _⟩ := info_parts info95'
  rw [exec_build_all 95 _ i0 z95 structs95 hi0 hz0 _ fields95 [.int .i64 f.at_, .string f.text] (by simp [numbered, hx, hz]) (by simp [Places, Value.cells]) rfl]
  rfl
theorem wp_slice95 {o : Oper} {a : Act} {w : World} {K : Act → World → Prop} {Q : Exit → Act → World → Prop} (x : Operand) (ho : o.op = .buildSlice 82 1 #[(0, x)]) (f : Fl) (hx : a.eval x = .agg (flc f).toArray)
    (h : ∀ w', Blk w' w.heap.size 95 (flc f).toArray → Below w.heap.size w w' → K (a.put o.dst (.slice (some ⟨w.heap.size, 0, none⟩) 1 1)) w') : o.wp Try.prog a w K Q := by
  obtain ⟨i0, hi0, hz0, hz1, _⟩ := info_parts info95'
  refine wp_buildSlice1 82 x ho 95 i0 z95 2 Try.underlying82 hi0 hz0 hz1 (.agg (flc f).toArray) (flc f) hx rfl rfl (by decide) ?_
  exact h _ (Blk.new w 95 (flc f).toArray) (bnew w _)
section
variable {b g c n B : Nat} {A : Option Addr} {xs : List Value} {cells : ByteArray → Array Value} {rest text : ByteArray} {x y : World} {v : Value} {f : Fl}
theorem P18.rp (h : P18 b text rest cells v x) (hR : RP b g c n A xs cells rest x y) : P18 b text rest cells v y := by
  obtain ⟨h1, h2⟩ := h
  obtain ⟨_, _, _, _, _, h6, _⟩ := hR
  obtain ⟨s', hb, e⟩ := h6 rest h2
  rw [e rfl] at hb
  exact ⟨h1, hb⟩
theorem P20.rp (h : P20 B f v x) (hR : RP b g c n A xs cells rest x y) (hb : b < B) (hg : 0 < c → g < B) : P20 B f v y := by
  obtain ⟨q, e, hq, hbl⟩ := h
  exact ⟨q, e, hq, hR.blk hbl (by omega) (fun hc => by have := hg hc; omega)⟩
theorem P21.rp (h : P21 B g n c A xs v x) (hR : RP b g c n A xs cells rest x y) (hb : b < B) (hg : 0 < c → g < B) : P21 B g n c A xs v y := by
  rcases h with ⟨h1, h2, h3⟩ | ⟨g', A', c', h1, h2, h3⟩
  · exact .inl ⟨h1, h2, hR.2.2.2.2.2.2 h3⟩
  · exact .inr ⟨g', A', c', h1, h2.keep fun hc => hR.2.2.2.2.1 g' (h2.lt hc) (by omega) (fun hc => by have := hg hc; omega), h3⟩
/-- the call takes what it takes -/
theorem RP.step18 {s0 : ByteArray} {o : Nat} (hbk : Blk x b 87 (cells s0)) (hset : (cells s0).setIfInBounds o (.string rest) = cells rest) (hgb : 0 < c → g ≠ b) : RP b g c n A xs cells rest x (x.setCell ⟨b, o, none⟩ (.string rest)).drew := by
  have hb2 : Blk (x.setCell ⟨b, o, none⟩ (.string rest)).drew b 87 (cells rest) := hset ▸ hbk.set_ o (.string rest)
  have hg := grownBy_setCell x b o (.string rest)
  exact ⟨rfl, rfl, rfl, hg.size, fun k hk hb _ => hg.block k hk (by simpa using hb), fun s _ => ⟨rest, hb2, fun _ => rfl⟩, fun ho => ho.keep fun hc => hg.block g (ho.lt hc) (by simpa using hgb hc)⟩
theorem T8.step18 {o j : Nat} {full : Array Value} {xs0 : List Value} {u : Value} (hgb : 0 < c → g ≠ b) (hj : j ≠ 18) (h : T8 b g n c A xs0 full j x) : T8 b g n c A xs0 full j (x.setCell ⟨b, o, none⟩ u).drew := by
  have hg := grownBy_setCell x b o u
  exact ⟨fun e => absurd e hj, fun e => (h.2 e).keep fun hc => hg.block g ((h.2 e).lt hc) (by simpa using hgb hc)⟩
theorem T8.below {j : Nat} {full : Array Value} {xs0 : List Value} (h : T8 b g n c A xs0 full j x) (hb : Below x.heap.size x y) : T8 b g n c A xs0 full j y :=
  ⟨fun e => (h.1 e).below hb, fun e => (h.2 e).keep fun hc => hb.block g ((h.2 e).lt hc)⟩
theorem RP.step21 {xs0 : List Value} (hO : OT x g A n c xs0) (hgb : 0 < c → g ≠ b) (ha : AppOut x g n c A xs0 f v y) : RP b g c n A (xs0 ++ flc f) cells rest x y := by
  rcases ha with ⟨h1, h2, h3, h4⟩ | ⟨h1, _⟩
  · exact ⟨h2.os, h2.tape, h2.output, h2.size, fun k hk _ hn => h2.block k hk (by simpa using hn h1), fun s hs => ⟨s, hs.grown h2 (by simpa using Ne.symm (hgb h1)), id⟩, fun _ => h4⟩
  · exact RP.of_below (fun hc => hO.lt hc) h1
theorem T8.step21 {j : Nat} {full : Array Value} {xs0 : List Value} (hgb : 0 < c → g ≠ b) (hj : j ≠ 21) (h : T8 b g n c A xs0 full j x) (ha : AppOut x g n c A xs0 f v y) : T8 b g n c A xs0 full j y := by
  rcases ha with ⟨h1, h2, h3, h4⟩ | ⟨h1, _⟩
  · exact ⟨fun e => (h.1 e).grown h2 (by simpa using Ne.symm (hgb h1)), fun e => absurd e hj⟩
  · exact h.below h1
theorem P21.of {xs0 : List Value} (ha : AppOut x g n c A xs0 f v y) (hB : B ≤ x.heap.size) : P21 B g n c A (xs0 ++ flc f) v y := by
  rcases ha with ⟨h1, h2, h3, h4⟩ | ⟨h1, g', A', c', h2, h3, h4⟩
  · exact .inl ⟨h1, h3, h4⟩
  · exact .inr ⟨g', A', c', h2, h3, by omega⟩
end
theorem minI (r : Int) (n : Nat) (hr : 0 < r) : ∃ k : Nat, (if (n : Int) < r then (n : Int) else r) = (k : Int) ∧ k = recN r n ∧ k ≤ n ∧ (0 < n → 0 < k) := by
  unfold recN
  by_cases h : (n : Int) < r
  · exact ⟨n, by rw [if_pos h], by rw [Int.min_eq_right (by omega)]; rfl, Nat.le_refl _, id⟩
  · exact ⟨r.toNat, by rw [if_neg h]; omega, by rw [Int.min_eq_left (by omega)], by omega, by omega⟩
theorem launch_fin0 {F : Nat → Prop} {B : Nat} {w y w6 : World} {r d p now ses : Int} {ws : List Wn} {x0 x1 a0 a1 rest : ByteArray} {f0 f1 : List Fl} {f : Fl} {b gw g0 g1 c c0 c1 : Nat} {A A0 A1 : Option Addr} {v : Value}
    (h : LnO w b ⟨⟨r, d, p, ws⟩, now, true, ses, ⟨x0, f0, a0⟩, ⟨x1, f1, a1⟩⟩ gw g0 g1 A A0 A1 c c0 c1) (hB : B ≤ w.heap.size) (hFb : F b ∨ B ≤ b) (hF0 : 0 < c0 → F g0 ∨ B ≤ g0) (hF1 : 0 < c1 → F g1 ∨ B ≤ g1)
    (hb : Below w.heap.size w y) (hR : RP b g0 c0 f0.length A0 (f0.flatMap flc ++ flc f) (fun s => (L87 r d p A ws.length c now true ses s A0 f0.length c0 a0 x1 A1 f1.length c1 a1).toArray) rest y.drew w6) (h18 : Blk w6 b 87 ((fun s => (L87 r d p A ws.length c now true ses s A0 f0.length c0 a0 x1 A1 f1.length c1 a1).toArray) rest)) (h21 : P21 y.heap.size g0 f0.length c0 A0 (f0.flatMap flc ++ flc f) v w6) :
    POwn F B (w6.setCell ⟨b, 8, none⟩ v) b ⟨⟨r, d, p, ws⟩, now, true, ses, ⟨rest, f0 ++ [f], a0⟩, ⟨x1, f1, a1⟩⟩ gw A c ∧ Keep F B w (w6.setCell ⟨b, 8, none⟩ v) := by
  have hk : ∀ k, k < w.heap.size → k ≠ b → (0 < c0 → k ≠ g0) → w6.heap[k]? = w.heap[k]? := fun k h1 h2 h3 => (hR.2.2.2.2.1 k (Nat.lt_of_lt_of_le h1 hb.size) h2 h3).trans (hb.block k h1)
  have hgs := grownBy_setCell w6 b 8 v
  have hsz : w.heap.size ≤ w6.heap.size := Nat.le_trans hb.size hR.2.2.2.1
  have htg : 0 < c0 → ∃ cur, Blk w g0 95 cur := fun hc => by
    obtain ⟨off, cur, _, hb, _⟩ := h.t0.2.2 hc
    exact ⟨cur, hb⟩
  have hlen : (f0 ++ [f]).length = f0.length + 1 := by simp
  have hfl : (f0 ++ [f]).flatMap flc = f0.flatMap flc ++ flc f := by simp
  have hv : ∃ g' A' c', v = .slice A' (f0.length + 1) c' ∧ OT w6 g' A' (f0.length + 1) c' (f0.flatMap flc ++ flc f) ∧ ((g' = g0 ∧ 0 < c0) ∨ y.heap.size ≤ g') := by
    rcases h21 with ⟨q1, q2, q3⟩ | ⟨g', A', c', q1, q2, q3⟩
    · exact ⟨_, _, _, q2, q3, .inl ⟨rfl, q1⟩⟩
    · exact ⟨g', A', c', q1, q2, .inr q3⟩
  obtain ⟨g', A', c', rfl, ho, hg'⟩ := hv
  have hys : w.heap.size ≤ y.heap.size := hb.size
  have hne' : 0 < c' → g' ≠ b := fun _ => by
    rcases hg' with ⟨rfl, h0⟩ | hg'
    · exact h.nb0 h0
    · have := h.blk.lt; omega
  refine ⟨⟨g', g1, A', A1, c', c1, ⟨?_, ?_, ?_, h.lw, by rw [hlen, hfl]; exact ho.keep fun hc => hgs.block g' (ho.lt hc) (by simpa using hne' hc), h.t1.keep fun hc => (hgs.block g1 (Nat.lt_of_lt_of_le (h.t1.lt hc) hsz) (by simpa using h.nb1 hc)).trans (hk g1 (h.t1.lt hc) (h.nb1 hc) (fun hc2 => Ne.symm (h.ne hc2 hc))), fun hc hc2 => by rcases hg' with ⟨rfl, h0⟩ | hg'; (· exact h.ne h0 hc2); (· have := h.t1.lt hc2; omega)⟩, hFb, fun hc => by rcases hg' with ⟨rfl, h0⟩ | hg'; (· exact hF0 h0); (· exact .inr (by omega)), hF1⟩, ?_⟩
  · have := h18.set_ 8 (.slice A' (f0.length + 1) c')
    simpa [lnc, L87] using this
  · rcases Nat.eq_zero_or_pos ws.length with he | he
    · have := h.rw_
      simp only [he] at this ⊢
      have e : ws.flatMap winc = [] := List.eq_nil_of_length_eq_zero (by simpa [he] using this.1)
      rw [e]; exact Rd.nil _ _ _ _
    · obtain ⟨cs, hcs⟩ := h.tw he
      refine h.rw_.keep (fun hlt => ?_) (by simpa using hsz)
      exact (hgs.block gw (Nat.lt_of_lt_of_le hlt hsz) (by simpa using h.nbw he)).trans (hk gw hlt (h.nbw he) (fun hc => by obtain ⟨cur, hcur⟩ := htg hc; exact hcs.ne_ hcur (by decide)))
  · intro he
    obtain ⟨cs, hcs⟩ := h.tw he
    exact ⟨cs, ((hgs.block gw (Nat.lt_of_lt_of_le hcs.lt hsz) (by simpa using h.nbw he)).trans (hk gw hcs.lt (h.nbw he) (fun hc => by obtain ⟨cur, hcur⟩ := htg hc; exact hcs.ne_ hcur (by decide)))).trans hcs⟩
  · refine ⟨hgs.os.trans (hR.1.trans hb.os), hgs.tape.trans (hR.2.1.trans hb.tape), hgs.output.trans (hR.2.2.1.trans hb.output), by simpa using hsz, fun k h1 h2 h3 => ?_⟩
    have hkb : k ≠ b := fun e => by
      subst e
      exact hFb.elim h3 (fun h => by omega)
    exact (hgs.block k (Nat.lt_of_lt_of_le h2 hsz) (by simpa using hkb)).trans (hk k h2 hkb (fun hc e => by subst e; exact (hF0 hc).elim h3 (fun h => by omega)))
theorem launch_fin1 {F : Nat → Prop} {B : Nat} {w y w6 : World} {r d p now ses : Int} {ws : List Wn} {x0 x1 a0 a1 rest : ByteArray} {f0 f1 : List Fl} {f : Fl} {b gw g0 g1 c c0 c1 : Nat} {A A0 A1 : Option Addr} {v : Value}
    (h : LnO w b ⟨⟨r, d, p, ws⟩, now, true, ses, ⟨x0, f0, a0⟩, ⟨x1, f1, a1⟩⟩ gw g0 g1 A A0 A1 c c0 c1) (hB : B ≤ w.heap.size) (hFb : F b ∨ B ≤ b) (hF0 : 0 < c0 → F g0 ∨ B ≤ g0) (hF1 : 0 < c1 → F g1 ∨ B ≤ g1)
    (hb : Below w.heap.size w y) (hR : RP b g1 c1 f1.length A1 (f1.flatMap flc ++ flc f) (fun s => (L87 r d p A ws.length c now true ses x0 A0 f0.length c0 a0 s A1 f1.length c1 a1).toArray) rest y.drew w6) (h18 : Blk w6 b 87 ((fun s => (L87 r d p A ws.length c now true ses x0 A0 f0.length c0 a0 s A1 f1.length c1 a1).toArray) rest)) (h21 : P21 y.heap.size g1 f1.length c1 A1 (f1.flatMap flc ++ flc f) v w6) :
    POwn F B (w6.setCell ⟨b, 11, none⟩ v) b ⟨⟨r, d, p, ws⟩, now, true, ses, ⟨x0, f0, a0⟩, ⟨rest, f1 ++ [f], a1⟩⟩ gw A c ∧ Keep F B w (w6.setCell ⟨b, 11, none⟩ v) := by
  have hk : ∀ k, k < w.heap.size → k ≠ b → (0 < c1 → k ≠ g1) → w6.heap[k]? = w.heap[k]? := fun k h1 h2 h3 => (hR.2.2.2.2.1 k (Nat.lt_of_lt_of_le h1 hb.size) h2 h3).trans (hb.block k h1)
  have hgs := grownBy_setCell w6 b 11 v
  have hsz : w.heap.size ≤ w6.heap.size := Nat.le_trans hb.size hR.2.2.2.1
  have htg : 0 < c1 → ∃ cur, Blk w g1 95 cur := fun hc => by
    obtain ⟨off, cur, _, hb, _⟩ := h.t1.2.2 hc
    exact ⟨cur, hb⟩
  have hlen : (f1 ++ [f]).length = f1.length + 1 := by simp
  have hfl : (f1 ++ [f]).flatMap flc = f1.flatMap flc ++ flc f := by simp
  have hv : ∃ g' A' c', v = .slice A' (f1.length + 1) c' ∧ OT w6 g' A' (f1.length + 1) c' (f1.flatMap flc ++ flc f) ∧ ((g' = g1 ∧ 0 < c1) ∨ y.heap.size ≤ g') := by
    rcases h21 with ⟨q1, q2, q3⟩ | ⟨g', A', c', q1, q2, q3⟩
    · exact ⟨_, _, _, q2, q3, .inl ⟨rfl, q1⟩⟩
    · exact ⟨g', A', c', q1, q2, .inr q3⟩
  obtain ⟨g', A', c', rfl, ho, hg'⟩ := hv
  have hys : w.heap.size ≤ y.heap.size := hb.size
  have hne' : 0 < c' → g' ≠ b := fun _ => by
    rcases hg' with ⟨rfl, h0⟩ | hg'
    · exact h.nb1 h0
    · have := h.blk.lt; omega
  refine ⟨⟨g0, g', A0, A', c0, c', ⟨?_, ?_, ?_, h.lw, h.t0.keep fun hc => (hgs.block g0 (Nat.lt_of_lt_of_le (h.t0.lt hc) hsz) (by simpa using h.nb0 hc)).trans (hk g0 (h.t0.lt hc) (h.nb0 hc) (fun hc2 => h.ne hc hc2)), by rw [hlen, hfl]; exact ho.keep fun hc => hgs.block g' (ho.lt hc) (by simpa using hne' hc), fun hc hc2 => by rcases hg' with ⟨rfl, h0⟩ | hg'; (· exact h.ne hc h0); (· have := h.t0.lt hc; omega)⟩, hFb, hF0, fun hc => by rcases hg' with ⟨rfl, h0⟩ | hg'; (· exact hF1 h0); (· exact .inr (by omega))⟩, ?_⟩
  · have := h18.set_ 11 (.slice A' (f1.length + 1) c')
    simpa [lnc, L87] using this
  · rcases Nat.eq_zero_or_pos ws.length with he | he
    · have := h.rw_
      simp only [he] at this ⊢
      have e : ws.flatMap winc = [] := List.eq_nil_of_length_eq_zero (by simpa [he] using this.1)
      rw [e]; exact Rd.nil _ _ _ _
    · obtain ⟨cs, hcs⟩ := h.tw he
      refine h.rw_.keep (fun hlt => ?_) (by simpa using hsz)
      exact (hgs.block gw (Nat.lt_of_lt_of_le hlt hsz) (by simpa using h.nbw he)).trans (hk gw hlt (h.nbw he) (fun hc => by obtain ⟨cur, hcur⟩ := htg hc; exact hcs.ne_ hcur (by decide)))
  · intro he
    obtain ⟨cs, hcs⟩ := h.tw he
    exact ⟨cs, ((hgs.block gw (Nat.lt_of_lt_of_le hcs.lt hsz) (by simpa using h.nbw he)).trans (hk gw hcs.lt (h.nbw he) (fun hc => by obtain ⟨cur, hcur⟩ := htg hc; exact hcs.ne_ hcur (by decide)))).trans hcs⟩
  · refine ⟨hgs.os.trans (hR.1.trans hb.os), hgs.tape.trans (hR.2.1.trans hb.tape), hgs.output.trans (hR.2.2.1.trans hb.output), by simpa using hsz, fun k h1 h2 h3 => ?_⟩
    have hkb : k ≠ b := fun e => by
      subst e
      exact hFb.elim h3 (fun h => by omega)
    exact (hgs.block k (Nat.lt_of_lt_of_le h2 hsz) (by simpa using hkb)).trans (hk k h2 hkb (fun hc e => by subst e; exact (hF1 hc).elim h3 (fun h => by omega)))
end Go.Proofs.Ytnddahajfcmkiaa
