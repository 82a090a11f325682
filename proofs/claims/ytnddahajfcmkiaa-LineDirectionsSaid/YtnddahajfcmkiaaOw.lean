/- A line with the set of blocks that it owns, for laws that hold more than one line. Conditions: none. -/
import Derived.Test.YtnddahajfcmkiaaNb
namespace Go.Proofs.Ytnddahajfcmkiaa
set_option linter.unusedSimpArgs false
set_option linter.unusedVariables false
set_option linter.unnecessarySimpa false
open Go.RowKit
structure Own2 (w : World) (G : Nat → Prop) (b : Nat) (L : Ln) (gw : Nat) (A : Option Addr) (c : Nat) : Prop where
  own : POwn G w.heap.size w b L gw A c
  lt : ∀ k, G k → k < w.heap.size
  b_ : G b
  g_ : 0 < L.cfg.ws.length → G gw
def grow (G : Nat → Prop) (w w' : World) : Nat → Prop := fun k => G k ∨ (w.heap.size ≤ k ∧ k < w'.heap.size)
section
variable {w w' : World} {G H : Nat → Prop} {b gw c : Nat} {L L' : Ln} {A : Option Addr}
/-- behind a step of its own -/
theorem Own2.step (h : Own2 w G b L gw A c) (hp : POwn G w.heap.size w' b L' gw A c) (hk : Keep G w.heap.size w w') (hc : L'.cfg = L.cfg) : Own2 w' (grow G w w') b L' gw A c := by
  obtain ⟨g0, g1, A0, A1, c0, c1, h1, h2, h3, h4⟩ := hp
  refine ⟨⟨g0, g1, A0, A1, c0, c1, h1, .inl (.inl h.b_), fun hc => ?_, fun hc => ?_⟩, fun k hk' => ?_, .inl h.b_, fun hw => .inl (h.g_ (by rw [← hc]; exact hw))⟩
  · have := h1.t0.lt hc
    rcases h3 hc with h | h
    · exact .inl (.inl h)
    · exact .inl (.inr ⟨h, this⟩)
  · have := h1.t1.lt hc
    rcases h4 hc with h | h
    · exact .inl (.inl h)
    · exact .inl (.inr ⟨h, this⟩)
  · rcases hk' with h' | h'
    · exact Nat.lt_of_lt_of_le (h.lt k h') hk.size
    · exact h'.2
/-- behind another's step -/
theorem Own2.keep (h : Own2 w H b L gw A c) (hk : Keep G w.heap.size w w') (hd : ∀ k, H k → ¬ G k) : Own2 w' H b L gw A c := by
  obtain ⟨⟨g0, g1, A0, A1, c0, c1, h1, h2, h3, h4⟩, hlt, hb, hg⟩ := h
  have same : ∀ k, H k → w'.heap[k]? = w.heap[k]? := fun k hh => hk.block k (hlt k hh) (hlt k hh) (hd k hh)
  have in0 : 0 < c0 → H g0 := fun hc => (h3 hc).elim id (fun h => by have := h1.t0.lt hc; omega)
  have in1 : 0 < c1 → H g1 := fun hc => (h4 hc).elim id (fun h => by have := h1.t1.lt hc; omega)
  refine ⟨⟨g0, g1, A0, A1, c0, c1, ⟨(same b hb).trans h1.blk, ?_, fun he => ?_, h1.lw, h1.t0.keep fun hc => same g0 (in0 hc), h1.t1.keep fun hc => same g1 (in1 hc), h1.ne⟩, .inl hb, fun hc => .inl (in0 hc), fun hc => .inl (in1 hc)⟩, fun k hh => Nat.lt_of_lt_of_le (hlt k hh) hk.size, hb, hg⟩
  · rcases Nat.eq_zero_or_pos L.cfg.ws.length with he | he
    · have := h1.rw_
      rw [he] at this ⊢
      have e : L.cfg.ws.flatMap winc = [] := List.eq_nil_of_length_eq_zero (by simpa using this.1)
      rw [e]; exact Rd.nil _ _ _ _
    · exact h1.rw_.keep (fun _ => same gw (hg he)) hk.size
  · obtain ⟨cs, hcs⟩ := h1.tw he
    exact ⟨cs, (same gw (hg he)).trans hcs⟩
theorem Own2.below (h : Own2 w H b L gw A c) (hb : Below w.heap.size w w') : Own2 w' H b L gw A c :=
  h.keep (G := fun _ => False) (Keep.of_below hb) (fun _ _ => id)
theorem grow_apart (hG : ∀ k, H k → ¬ G k) (hlt : ∀ k, H k → k < w.heap.size) : ∀ k, H k → ¬ grow G w w' k := fun k hh hg => by
  rcases hg with hg | hg
  · exact hG k hh hg
  · have := hlt k hh; omega
theorem grow_apart' (hG : ∀ k, G k → ¬ H k) (hlt : ∀ k, H k → k < w.heap.size) : ∀ k, grow G w w' k → ¬ H k := fun k hg hh => by
  rcases hg with hg | hg
  · exact hG k hg hh
  · have := hlt k hh; omega
theorem grow_ge {B : Nat} (hG : ∀ k, G k → B ≤ k) (hB : B ≤ w.heap.size) : ∀ k, grow G w w' k → B ≤ k := fun k hg => by
  rcases hg with hg | hg
  · exact hG k hg
  · omega
theorem Keep.blk {g : Nat} {t : TypeId} {cs : Array Value} (hk : Keep G w.heap.size w w') (h : Blk w g t cs) (hg : ¬ G g) : Blk w' g t cs := (hk.block g h.lt h.lt hg).trans h
theorem Keep.base {x : World} {B : Nat} (hk : Keep G w.heap.size w w') (h : Below B x w) (hB : B ≤ w.heap.size) (hG : ∀ k, G k → B ≤ k) : Below B x w' :=
  h.trans ⟨hk.os, hk.tape, hk.output, hk.size, fun k h1 => hk.block k (by omega) (by omega) (fun hg => by have := hG k hg; omega)⟩
end
theorem send_cfg (L : Ln) (s : Int) (t : ByteArray) : (sendL L s t).1.cfg = L.cfg := by
  unfold sendL
  split
  · rfl
  split
  · rfl
  split
  · rfl
  · simp only; split <;> rfl
theorem recv_cfg (L : Ln) (s m : Int) : (recvL L s m).1.cfg = L.cfg := by
  unfold recvL
  split
  · rfl
  · simp only; split <;> rfl
theorem adv_cfg (L : Ln) (n : Int) : (advL L n).1.cfg = L.cfg := by
  unfold advL
  split
  · rfl
  · exact (passN_cfg _ _).1
theorem drop_cfg (L : Ln) : (dropL L).1.cfg = L.cfg := by
  unfold dropL
  split <;> rfl
end Go.Proofs.Ytnddahajfcmkiaa
