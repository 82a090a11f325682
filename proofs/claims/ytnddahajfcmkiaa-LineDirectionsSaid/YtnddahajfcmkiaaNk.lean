/- The law's bound; operations as cells. Conditions: none. -/
import Derived.Test.YtnddahajfcmkiaaNf
namespace Go.Proofs.Ytnddahajfcmkiaa
set_option linter.unusedSimpArgs false
set_option linter.unusedVariables false
set_option linter.unnecessarySimpa false
open Go.RowKit
structure OpL where
  kind : Nat
  side : Int
  text : ByteArray
  n : Int
instance : Inhabited OpL := ⟨⟨0, 0, ⟨#[]⟩, 0⟩⟩
def oplc (o : OpL) : List Value := [.int .u8 o.kind, .int .i64 o.side, .string o.text, .int .i64 o.n]
theorem oplc_len (o : OpL) : (oplc o).length = 4 := rfl
def txt (t : ByteArray) : ByteArray := if t.size ≤ 200 then t else t.extract 0 200
def bnd (o : OpL) : OpL := { o with text := txt o.text, n := if (o.kind % 7 = 4 ∨ o.kind % 7 = 5) ∧ 200 < o.n ∧ o.n ≤ 10000000 then o.n % 200 else o.n }
theorem txt_size (t : ByteArray) : (txt t).size ≤ 200 := by
  unfold txt
  split
  · assumption
  · simp only [ByteArray.size_extract]; omega
theorem rem7 (k : Nat) (hk : k < 256) (x : Nat) (hx : k % 7 = x) : IntKind.u8.wrap ((k : Int).tmod 7) = x := by
  have e : (k : Int).tmod 7 = ((k % 7 : Nat) : Int) := by rw [Int.tmod_eq_emod_of_nonneg (by omega)]; omega
  rw [e, hx]
  have : x < 7 := by omega
  have h7 : x = 0 ∨ x = 1 ∨ x = 2 ∨ x = 3 ∨ x = 4 ∨ x = 5 ∨ x = 6 := by omega
  rcases h7 with rfl | rfl | rfl | rfl | rfl | rfl | rfl <;> rfl
def z27 : Value := .agg #[.int .u8 0, .int .i64 0, .string ⟨#[]⟩, .int .i64 0]
theorem info27z : (Try.prog.info? 27).map (fun i => (i.zero, i.size)) = some (some z27, 4) := by kernel_rfl
theorem info27 : (Try.prog.info? 27).map (·.size) = some 4 := by kernel_rfl
set_option maxRecDepth 20000 in
set_option maxHeartbeats 4000000 in
theorem bound_any (o : OpL) (w : World) (hk : o.kind < 256) : Calls Try.prog 36 #[.agg (oplc o).toArray] w fun e w' => e = .returned (.agg (oplc (bnd o)).toArray) ∧ Below w.heap.size w w' := by
  obtain ⟨k, s, t, n⟩ := o
  simp only at hk
  show Calls Try.prog 36 #[.agg #[.int .u8 k, .int .i64 s, .string t, .int .i64 n]] w fun e w' => e = .returned (.agg (oplc (bnd ⟨k, s, t, n⟩)).toArray) ∧ Below w.heap.size w w'
  have HR7 := Lib.hid (rem7 k hk (k % 7) rfl)
  by_cases ht : t.size ≤ 200
  · have HT : Hid (txt t = t) := Lib.hid (by simp [txt, ht])
    by_cases hn : (k % 7 = 4 ∨ k % 7 = 5) ∧ 200 < n ∧ n ≤ 10000000
    · obtain ⟨hk7, hn1, hn2⟩ := hn
      have HE : Hid (bnd ⟨k, s, t, n⟩ = ⟨k, s, t, n % 200⟩) := Lib.hid (by simp only [bnd, HT.out]; rw [if_pos ⟨hk7, hn1, hn2⟩])
      rcases hk7 with hk7 | hk7
      · have hk8 : (k : Int) % 7 = 4 := by omega
        clear hk7
        go_enter Try.func36, Try.ntmps36
        go_wp2
        refine bodyPost_ret (v := .agg #[.int .u8 k, .int .i64 s, .string t, .int .i64 (n % 200)]) (by simp [results, Try.results36, go_sem]) rfl ?_
        refine ⟨by rw [HE.out]; rfl, ?_⟩
        exact (bnew w _).trans' (bnew _ _)
      · have hk8 : (k : Int) % 7 = 5 := by omega
        clear hk7
        go_enter Try.func36, Try.ntmps36
        go_wp2
        refine bodyPost_ret (v := .agg #[.int .u8 k, .int .i64 s, .string t, .int .i64 (n % 200)]) (by simp [results, Try.results36, go_sem]) rfl ?_
        refine ⟨by rw [HE.out]; rfl, ?_⟩
        exact (bnew w _).trans' (bnew _ _)
    · have HE : Hid (bnd ⟨k, s, t, n⟩ = ⟨k, s, t, n⟩) := Lib.hid (by simp only [bnd, HT.out]; rw [if_neg hn])
      have hcs : ((k : Int) % 7 ≠ 4 ∧ (k : Int) % 7 ≠ 5) ∨ n ≤ 200 ∨ 10000000 < n := by omega
      clear hn
      by_cases hk4 : (k : Int) % 7 = 4
      · by_cases hn3 : 200 < n
        · have hn4 : 10000000 < n := by omega
          clear hcs
          go_enter Try.func36, Try.ntmps36
          go_wp2
          refine bodyPost_ret (v := .agg #[.int .u8 k, .int .i64 s, .string t, .int .i64 n]) (by simp [results, Try.results36, go_sem]) rfl ?_
          refine ⟨by rw [HE.out]; rfl, ?_⟩
          exact (bnew w _).trans' (bnew _ _)
        · clear hcs
          go_enter Try.func36, Try.ntmps36
          go_wp2
          refine bodyPost_ret (v := .agg #[.int .u8 k, .int .i64 s, .string t, .int .i64 n]) (by simp [results, Try.results36, go_sem]) rfl ?_
          refine ⟨by rw [HE.out]; rfl, ?_⟩
          exact (bnew w _).trans' (bnew _ _)
      · by_cases hk5 : (k : Int) % 7 = 5
        · by_cases hn3 : 200 < n
          · have hn4 : 10000000 < n := by omega
            clear hcs
            go_enter Try.func36, Try.ntmps36
            go_wp2
            refine bodyPost_ret (v := .agg #[.int .u8 k, .int .i64 s, .string t, .int .i64 n]) (by simp [results, Try.results36, go_sem]) rfl ?_
            refine ⟨by rw [HE.out]; rfl, ?_⟩
            exact (bnew w _).trans' (bnew _ _)
          · clear hcs
            go_enter Try.func36, Try.ntmps36
            go_wp2
            refine bodyPost_ret (v := .agg #[.int .u8 k, .int .i64 s, .string t, .int .i64 n]) (by simp [results, Try.results36, go_sem]) rfl ?_
            refine ⟨by rw [HE.out]; rfl, ?_⟩
            exact (bnew w _).trans' (bnew _ _)
        · have hb4 : ((k : Int) % 7 == 4) = false := by simpa using hk4
          have hb5 : ((k : Int) % 7 == 5) = false := by simpa using hk5
          clear hcs
          go_enter Try.func36, Try.ntmps36
          go_wp2
          refine bodyPost_ret (v := .agg #[.int .u8 k, .int .i64 s, .string t, .int .i64 n]) (by simp [results, Try.results36, go_sem]) rfl ?_
          refine ⟨by rw [HE.out]; rfl, ?_⟩
          exact (bnew w _).trans' (bnew _ _)
  · have HT : Hid (txt t = t.extract 0 200) := Lib.hid (by simp [txt, ht])
    have ht2 : 200 < t.size := by omega
    by_cases hn : (k % 7 = 4 ∨ k % 7 = 5) ∧ 200 < n ∧ n ≤ 10000000
    · obtain ⟨hk7, hn1, hn2⟩ := hn
      have HE : Hid (bnd ⟨k, s, t, n⟩ = ⟨k, s, (t.extract 0 200), n % 200⟩) := Lib.hid (by simp only [bnd, HT.out]; rw [if_pos ⟨hk7, hn1, hn2⟩])
      rcases hk7 with hk7 | hk7
      · have hk8 : (k : Int) % 7 = 4 := by omega
        clear hk7
        go_enter Try.func36, Try.ntmps36
        go_wp2
        refine bodyPost_ret (v := .agg #[.int .u8 k, .int .i64 s, .string (t.extract 0 200), .int .i64 (n % 200)]) (by simp [results, Try.results36, go_sem]) rfl ?_
        refine ⟨by rw [HE.out]; rfl, ?_⟩
        exact (bnew w _).trans' (bnew _ _)
      · have hk8 : (k : Int) % 7 = 5 := by omega
        clear hk7
        go_enter Try.func36, Try.ntmps36
        go_wp2
        refine bodyPost_ret (v := .agg #[.int .u8 k, .int .i64 s, .string (t.extract 0 200), .int .i64 (n % 200)]) (by simp [results, Try.results36, go_sem]) rfl ?_
        refine ⟨by rw [HE.out]; rfl, ?_⟩
        exact (bnew w _).trans' (bnew _ _)
    · have HE : Hid (bnd ⟨k, s, t, n⟩ = ⟨k, s, (t.extract 0 200), n⟩) := Lib.hid (by simp only [bnd, HT.out]; rw [if_neg hn])
      have hcs : ((k : Int) % 7 ≠ 4 ∧ (k : Int) % 7 ≠ 5) ∨ n ≤ 200 ∨ 10000000 < n := by omega
      clear hn
      by_cases hk4 : (k : Int) % 7 = 4
      · by_cases hn3 : 200 < n
        · have hn4 : 10000000 < n := by omega
          clear hcs
          go_enter Try.func36, Try.ntmps36
          go_wp2
          refine bodyPost_ret (v := .agg #[.int .u8 k, .int .i64 s, .string (t.extract 0 200), .int .i64 n]) (by simp [results, Try.results36, go_sem]) rfl ?_
          refine ⟨by rw [HE.out]; rfl, ?_⟩
          exact (bnew w _).trans' (bnew _ _)
        · clear hcs
          go_enter Try.func36, Try.ntmps36
          go_wp2
          refine bodyPost_ret (v := .agg #[.int .u8 k, .int .i64 s, .string (t.extract 0 200), .int .i64 n]) (by simp [results, Try.results36, go_sem]) rfl ?_
          refine ⟨by rw [HE.out]; rfl, ?_⟩
          exact (bnew w _).trans' (bnew _ _)
      · by_cases hk5 : (k : Int) % 7 = 5
        · by_cases hn3 : 200 < n
          · have hn4 : 10000000 < n := by omega
            clear hcs
            go_enter Try.func36, Try.ntmps36
            go_wp2
            refine bodyPost_ret (v := .agg #[.int .u8 k, .int .i64 s, .string (t.extract 0 200), .int .i64 n]) (by simp [results, Try.results36, go_sem]) rfl ?_
            refine ⟨by rw [HE.out]; rfl, ?_⟩
            exact (bnew w _).trans' (bnew _ _)
          · clear hcs
            go_enter Try.func36, Try.ntmps36
            go_wp2
            refine bodyPost_ret (v := .agg #[.int .u8 k, .int .i64 s, .string (t.extract 0 200), .int .i64 n]) (by simp [results, Try.results36, go_sem]) rfl ?_
            refine ⟨by rw [HE.out]; rfl, ?_⟩
            exact (bnew w _).trans' (bnew _ _)
        · have hb4 : ((k : Int) % 7 == 4) = false := by simpa using hk4
          have hb5 : ((k : Int) % 7 == 5) = false := by simpa using hk5
          clear hcs
          go_enter Try.func36, Try.ntmps36
          go_wp2
          refine bodyPost_ret (v := .agg #[.int .u8 k, .int .i64 s, .string (t.extract 0 200), .int .i64 n]) (by simp [results, Try.results36, go_sem]) rfl ?_
          refine ⟨by rw [HE.out]; rfl, ?_⟩
          exact (bnew w _).trans' (bnew _ _)
end Go.Proofs.Ytnddahajfcmkiaa
