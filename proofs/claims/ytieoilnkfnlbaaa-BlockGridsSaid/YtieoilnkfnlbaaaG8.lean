/- Two blocks, sorted. -/
import Derived.Test.YtieoilnkfnlbaaaG2
import Derived.BigRegion
namespace Go.Proofs.Ytieoilnkfnlbaaa
open Go.RowKit Go.Proofs.YtieoilnkfnlbaaaW.PrintWords

set_option maxHeartbeats 1000000 in
set_option maxRecDepth 100000 in
theorem len64_2 (w : World) : Calls Try.prog 61 #[.int .u64 2] w fun e w' => (∃ n : Int, e = .returned (.int .i64 n)) ∧ w' = w := by
  go_enter Try.func61, Try.ntmps61
  go_wp2
  go_ret
  exact ⟨⟨_, rfl⟩, rfl⟩

set_option maxHeartbeats 1000000 in
set_option maxRecDepth 100000 in
theorem len_2 (w : World) : Calls Try.prog 35 #[.int .u64 2] w fun e w' => (∃ n : Int, e = .returned (.int .i64 n)) ∧ w' = w := by
  go_enter Try.func35, Try.ntmps35
  go_wp2_with (go_at_call 61; refine (len64_2 _).mono ?_; rintro e w' ⟨⟨n, rfl⟩, hw'⟩; rw [hw']; clear hw')
  go_ret
  exact ⟨⟨_, rfl⟩, rfl⟩

set_option maxHeartbeats 1000000 in
theorem nan_i (w : World) (a : Int) : Calls Try.prog 36 #[.int .i64 a] w fun e w' => e = .returned (.bool false) ∧ w' = w := by
  go_enter Try.func36, Try.ntmps36
  go_wp2
  go_ret
  exact ⟨rfl, rfl⟩

def cmpR (a b : Int) : Int := if a < b then -1 else if b < a then 1 else 0

/-- A block's value. -/
abbrev blkV (a : Int) (v : Value) : Value := .agg #[.int .i64 a, .int .i64 (a + 64), .int .i64 0, v]

set_option maxHeartbeats 1000000 in
set_option maxRecDepth 100000 in
theorem cmp_i (w : World) (a b : Int) : Calls Try.prog 21 #[.int .i64 a, .int .i64 b] w fun e w' => e = .returned (.int .i64 (cmpR a b)) ∧ w' = w := by
  by_cases h1 : a < b
  · have q1 : decide (a < b) = true := decide_eq_true h1
    have H1 := Aside0.mk (show cmpR a b = -1 by unfold cmpR; rw [if_pos h1])
    clear h1
    go_enter Try.func21, Try.ntmps21
    go_wp2_with (go_at_call 36; refine (nan_i _ _).mono ?_; rintro e w' ⟨rfl, hw'⟩; rw [hw']; clear hw')
    go_ret
    exact ⟨by rw [H1.out]; rfl, rfl⟩
  · have q1 : decide (a < b) = false := decide_eq_false h1
    by_cases h2 : b < a
    · have q2 : decide (b < a) = true := decide_eq_true h2
      have H2 := Aside0.mk (show cmpR a b = 1 by unfold cmpR; rw [if_neg h1, if_pos h2])
      clear h1 h2
      go_enter Try.func21, Try.ntmps21
      go_wp2_with (go_at_call 36; refine (nan_i _ _).mono ?_; rintro e w' ⟨rfl, hw'⟩; rw [hw']; clear hw')
      go_ret
      exact ⟨by rw [H2.out]; rfl, rfl⟩
    · have q2 : decide (b < a) = false := decide_eq_false h2
      have H2 := Aside0.mk (show cmpR a b = 0 by unfold cmpR; rw [if_neg h1, if_neg h2])
      clear h1 h2
      go_enter Try.func21, Try.ntmps21
      go_wp2_with (go_at_call 36; refine (nan_i _ _).mono ?_; rintro e w' ⟨rfl, hw'⟩; rw [hw']; clear hw')
      go_ret
      exact ⟨by rw [H2.out]; rfl, rfl⟩

set_option maxHeartbeats 1000000 in
set_option maxRecDepth 100000 in
theorem cmp_b (w : World) (a b : Int) (u v : Value) : Calls Try.prog 20 #[blkV a u, blkV b v] w fun e w' => e = .returned (.int .i64 (cmpR a b)) ∧ Below w.heap.size w w' := by
  have HC := Aside0.mk (fun w => cmp_i w a b)
  go_enter Try.func20, Try.ntmps20
  go_wp2_with (go_at_call 21; refine (HC.out _).mono ?_; rintro e w' ⟨rfl, hw'⟩; rw [hw']; clear hw')
  go_ret
  exact ⟨rfl, ((Below.refl _ _).alloc (Nat.le_refl _) _).alloc (by simp) _⟩

/-- What turned: block g alone; new ones may be there. -/
structure Only (g : Nat) (w w' : World) : Prop where
  os : w'.os = w.os
  tape : w'.tape = w.tape
  output : w'.output = w.output
  size : w.heap.size ≤ w'.heap.size
  block : ∀ k, k < w.heap.size → k ≠ g → w'.heap[k]? = w.heap[k]?

theorem Only.of_below {g : Nat} {w w' : World} (h : Below w.heap.size w w') : Only g w w' := ⟨h.os, h.tape, h.output, h.size, fun k hk _ => h.block k hk⟩
theorem Only.trans {g : Nat} {a b c : World} (h : Only g a b) (k : Only g b c) : Only g a c :=
  ⟨k.os.trans h.os, k.tape.trans h.tape, k.output.trans h.output, Nat.le_trans h.size k.size, fun i hi hn => (k.block i (Nat.lt_of_lt_of_le hi h.size) hn).trans (h.block i hi hn)⟩
theorem Only.set {g : Nat} {w w' : World} (h : Only g w w') (j : Nat) (u : Value) : Only g w (w'.setCell ⟨g, j, none⟩ u) :=
  h.trans ⟨rfl, rfl, rfl, by simp [World.setCell], fun k _ hn => Below.heap_setCell w' ⟨g, j, none⟩ u k hn⟩
theorem Only.below {g B : Nat} {w w' : World} (h : Only g w w') (hB : B ≤ w.heap.size) (hg : B ≤ g) : Below B w w' := ⟨h.os, h.tape, h.output, h.size, fun k hk => h.block k (by omega) (by omega)⟩

/-- Two blocks' cells. -/
abbrev twoBlocks (a : Int) (u : Value) (b : Int) (v : Value) : List Value := [.int .i64 a, .int .i64 (a + 64), .int .i64 0, u, .int .i64 b, .int .i64 (b + 64), .int .i64 0, v]

/-- Block g begins with these cells. -/
def Begins (w : World) (g : Nat) (cs : List Value) : Prop := ∃ cur : Array Value, w.heap[g]? = some (.cells cur 42 (0, 0)) ∧ ∀ (j : Nat) (v : Value), cs[j]? = some v → cur[j]? = some v

theorem Begins.cell {w : World} {g : Nat} {cs : List Value} (h : Begins w g cs) (j : Nat) (v : Value) (hj : cs[j]? = some v) : w.cell? ⟨g, j, none⟩ = some v := by
  obtain ⟨cur, hb, hc⟩ := h
  rw [blk_cell hb j]
  exact hc j v hj
theorem Begins.frozen {w : World} {g : Nat} {cs : List Value} (h : Begins w g cs) (j : Nat) : w.frozen? ⟨g, j, none⟩ = false := by
  obtain ⟨cur, hb, _⟩ := h
  exact blk_frozen hb j
theorem Begins.lt {w : World} {g : Nat} {cs : List Value} (h : Begins w g cs) : g < w.heap.size := by
  obtain ⟨cur, hb, _⟩ := h
  exact blk_lt hb
theorem Begins.keep {w w' : World} {g : Nat} {cs : List Value} (h : Begins w g cs) (hb : w'.heap[g]? = w.heap[g]?) : Begins w' g cs := by
  obtain ⟨cur, h1, h2⟩ := h
  exact ⟨cur, hb.trans h1, h2⟩
theorem Begins.put {w : World} {g : Nat} {cs : List Value} (h : Begins w g cs) (i : Nat) (u : Value) : Begins (w.setCell ⟨g, i, none⟩ u) g (cs.set i u) := by
  obtain ⟨cur, h1, h2⟩ := h
  refine ⟨_, blk_set h1 i u, fun j v hj => ?_⟩
  by_cases hji : i = j
  · subst hji
    have hl : i < cs.length := by
      have := (List.getElem?_eq_some_iff.1 hj).1
      simpa using this
    rw [List.getElem?_set_self hl] at hj
    have hc := h2 i cs[i] (List.getElem?_eq_getElem hl)
    have hsz : i < cur.size := (Array.getElem?_eq_some_iff.1 hc).1
    rw [Array.getElem?_setIfInBounds_self_of_lt hsz]
    exact hj
  · rw [List.getElem?_set_ne hji] at hj
    rw [Array.getElem?_setIfInBounds_ne hji]
    exact h2 j v hj

end Go.Proofs.Ytieoilnkfnlbaaa
