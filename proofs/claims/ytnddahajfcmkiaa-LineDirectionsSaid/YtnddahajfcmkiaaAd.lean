/- Two lines that advance in one statement: what the region keeps. Conditions: none. -/
import Derived.Test.YtnddahajfcmkiaaOw
namespace Go.Proofs.Ytnddahajfcmkiaa
set_option linter.unusedSimpArgs false
set_option linter.unusedVariables false
set_option linter.unnecessarySimpa false
open Go.RowKit
def PA (w0 : World) (H : Nat → Prop) (b1 gw1 : Nat) (A1 : Option Addr) (c1 : Nat) (L' : Ln) (x : World) : Prop :=
  ∃ G', Own2 x G' b1 L' gw1 A1 c1 ∧ (∀ k, H k → ¬ G' k) ∧ ∀ k, G' k → w0.heap.size ≤ k
def JA (w0 : World) (G : Nat → Prop) (b1 b2 gw1 gw2 : Nat) (A1 A2 : Option Addr) (c1 c2 : Nat) (L' M' : Ln) (x : World) : Prop :=
  ∃ G' H', Own2 x G' b1 L' gw1 A1 c1 ∧ Own2 x H' b2 M' gw2 A2 c2 ∧ (∀ k, H' k → ¬ G' k) ∧ (∀ k, H' k → ¬ G k) ∧ (∀ k, G' k → w0.heap.size ≤ k) ∧ ∀ k, H' k → w0.heap.size ≤ k
def BaseA (w0 : World) (q : Nat) (x y : World) : Prop :=
  y.os = x.os ∧ y.tape = x.tape ∧ y.output = x.output ∧ x.heap.size ≤ y.heap.size ∧ (∀ cs, Blk x q 27 cs → Blk y q 27 cs) ∧ (Below w0.heap.size w0 x → Below w0.heap.size w0 y)
def RA (w0 : World) (q : Nat) (G H : Nat → Prop) (b1 b2 gw1 gw2 : Nat) (A1 A2 : Option Addr) (c1 c2 : Nat) (L' M' : Ln) (x y : World) : Prop :=
  BaseA w0 q x y ∧ (PA w0 H b1 gw1 A1 c1 L' x → PA w0 H b1 gw1 A1 c1 L' y) ∧ (JA w0 G b1 b2 gw1 gw2 A1 A2 c1 c2 L' M' x → JA w0 G b1 b2 gw1 gw2 A1 A2 c1 c2 L' M' y)
def TA (G H : Nat → Prop) (b1 b2 gw1 gw2 : Nat) (A1 A2 : Option Addr) (c1 c2 : Nat) (L M : Ln) (i : Nat) (x : World) : Prop :=
  (i = 3 → Own2 x G b1 L gw1 A1 c1) ∧ (i = 7 → Own2 x H b2 M gw2 A2 c2)
section
variable {w0 x y z : World} {q b1 b2 gw1 gw2 c1 c2 : Nat} {A1 A2 : Option Addr} {G H : Nat → Prop} {L M L' M' : Ln}
theorem RA.refl (x : World) : RA w0 q G H b1 b2 gw1 gw2 A1 A2 c1 c2 L' M' x x := ⟨⟨rfl, rfl, rfl, Nat.le_refl _, fun _ h => h, id⟩, id, id⟩
theorem RA.trans (x y z : World) (h : RA w0 q G H b1 b2 gw1 gw2 A1 A2 c1 c2 L' M' x y) (k : RA w0 q G H b1 b2 gw1 gw2 A1 A2 c1 c2 L' M' y z) : RA w0 q G H b1 b2 gw1 gw2 A1 A2 c1 c2 L' M' x z := by
  obtain ⟨⟨h1, h2, h3, h4, h5, h6⟩, h7, h8⟩ := h
  obtain ⟨⟨k1, k2, k3, k4, k5, k6⟩, k7, k8⟩ := k
  exact ⟨⟨k1.trans h1, k2.trans h2, k3.trans h3, Nat.le_trans h4 k4, fun cs h => k5 cs (h5 cs h), fun h => k6 (h6 h)⟩, fun h => k7 (h7 h), fun h => k8 (h8 h)⟩
theorem BaseA.of (hk : Keep G x.heap.size x y) (hG : ∀ k, G k → w0.heap.size ≤ k) (hb : w0.heap.size ≤ x.heap.size) (hq : ¬ G q) : BaseA w0 q x y :=
  ⟨hk.os, hk.tape, hk.output, hk.size, fun cs h => hk.blk h hq, fun h => hk.base h hb hG⟩
theorem PA.of (h : Own2 x G b1 L gw1 A1 c1) (hp : POwn G x.heap.size y b1 L' gw1 A1 c1) (hk : Keep G x.heap.size x y) (hc : L'.cfg = L.cfg) (hd : ∀ k, H k → ¬ G k) (hG : ∀ k, G k → w0.heap.size ≤ k) (hH : ∀ k, H k → k < x.heap.size) (hb : w0.heap.size ≤ x.heap.size) : PA w0 H b1 gw1 A1 c1 L' y :=
  ⟨_, h.step hp hk hc, grow_apart hd hH, grow_ge hG hb⟩
/-- the first line's step -/
theorem RA.step3 (h : Own2 x G b1 L gw1 A1 c1) (hp : POwn G x.heap.size y b1 L' gw1 A1 c1) (hk : Keep G x.heap.size x y) (hc : L'.cfg = L.cfg) (hd : ∀ k, H k → ¬ G k) (hG : ∀ k, G k → w0.heap.size ≤ k) (hH : ∀ k, H k → k < x.heap.size) (hb : w0.heap.size ≤ x.heap.size) (hq : ¬ G q) :
    RA w0 q G H b1 b2 gw1 gw2 A1 A2 c1 c2 L' M' x y :=
  ⟨BaseA.of hk hG hb hq, fun _ => PA.of h hp hk hc hd hG hH hb, fun ⟨G', H', _, k2, _, k4, _, k6⟩ => ⟨_, H', h.step hp hk hc, k2.keep hk k4, grow_apart k4 k2.lt, k4, grow_ge hG hb, k6⟩⟩
theorem JA.of (h : Own2 x H b2 M gw2 A2 c2) (hP : PA w0 H b1 gw1 A1 c1 L' x) (hp : POwn H x.heap.size y b2 M' gw2 A2 c2) (hk : Keep H x.heap.size x y) (hc : M'.cfg = M.cfg) (hd : ∀ k, H k → ¬ G k) (hH : ∀ k, H k → w0.heap.size ≤ k) (hGl : ∀ k, G k → k < x.heap.size) (hb : w0.heap.size ≤ x.heap.size) : JA w0 G b1 b2 gw1 gw2 A1 A2 c1 c2 L' M' y := by
  obtain ⟨G', k1, k2, k3⟩ := hP
  exact ⟨G', _, k1.keep hk (fun k h1 h2 => k2 k h2 h1), h.step hp hk hc, grow_apart' k2 k1.lt, grow_apart' hd hGl, k3, grow_ge hH hb⟩
/-- the second line's step, behind the first's -/
theorem RA.step7 (h : Own2 x H b2 M gw2 A2 c2) (hP : PA w0 H b1 gw1 A1 c1 L' x) (hp : POwn H x.heap.size y b2 M' gw2 A2 c2) (hk : Keep H x.heap.size x y) (hc : M'.cfg = M.cfg) (hd : ∀ k, H k → ¬ G k) (hH : ∀ k, H k → w0.heap.size ≤ k) (hGl : ∀ k, G k → k < x.heap.size) (hb : w0.heap.size ≤ x.heap.size) (hq : ¬ H q) :
    RA w0 q G H b1 b2 gw1 gw2 A1 A2 c1 c2 L' M' x y :=
  ⟨BaseA.of hk hH hb hq, fun ⟨G', k1, k2, k3⟩ => ⟨G', k1.keep hk (fun k h1 h2 => k2 k h2 h1), k2, k3⟩, fun _ => JA.of h hP hp hk hc hd hH hGl hb⟩
end
end Go.Proofs.Ytnddahajfcmkiaa
