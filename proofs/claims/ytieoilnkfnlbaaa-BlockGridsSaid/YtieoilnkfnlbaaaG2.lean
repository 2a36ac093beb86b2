/- An empty histogram may be; samples of such that rise. -/
import Derived.Test.YtieoilnkfnlbaaaG1
namespace Go.Proofs.Ytieoilnkfnlbaaa
open Go.RowKit Go.Proofs.YtieoilnkfnlbaaaW.PrintWords

/-- The empty histogram. -/
abbrev emptyH : Value := .agg #[.int .i64 0, .int .i64 0, .int .i64 (-524288), .int .u64 0, .int .u64 0, .int .i64 0, .slice none 0 0, .slice none 0 0]

set_option maxHeartbeats 1000000 in
set_option maxRecDepth 100000 in
theorem buckets_0 (w : World) : Calls Try.prog 79 #[emptyH, .slice none 0 0] w fun e w' => e = .returned (.int .i64 0) ∧ Below w.heap.size w w' := by
  go_enter Try.func79, Try.ntmps79
  go_wp2_with fail
  refine wp_loop_rounds 1 ?_
  rw [rounds_succ]
  go_wp2
  go_ret
  exact ⟨rfl, (Below.refl _ _).alloc (Nat.le_refl _) _⟩

set_option maxHeartbeats 1000000 in
theorem right_0 (w : World) : Calls Try.prog 78 #[.int .i64 0] w fun e w' => e = .returned (.bool true) ∧ w' = w := by
  go_enter Try.func78, Try.ntmps78
  go_wp2
  go_ret
  exact ⟨rfl, rfl⟩

theorem pidx0 (w : World) (a b : Value) : (Instr.index 127 (.agg #[a, b]) (.int .i64 0)).run Try.prog w = .ok a w := by kernel_rfl
theorem pidx1 (w : World) (a b : Value) : (Instr.index 127 (.agg #[a, b]) (.int .i64 1)).run Try.prog w = .ok b w := by kernel_rfl

set_option maxHeartbeats 1000000 in
set_option maxRecDepth 100000 in
theorem check_0 (w : World) : Calls Try.prog 46 #[emptyH] w fun e w' => e = .returned (.int .i64 0) ∧ Below w.heap.size w w' := by
  have i0 := pidx0
  have i1 := pidx1
  go_enter Try.func46, Try.ntmps46
  go_wp2_with (go_at_call 78; refine (right_0 _).mono ?_; rintro e w' ⟨rfl, hw'⟩; rw [hw']; clear hw')
  have hW : ∃ W, W = w.alloc (.cells #[.int .i64 0, .int .i64 0, .int .i64 (-524288), .int .u64 0, .int .u64 0, .int .i64 0, .slice none 0 0, .slice none 0 0] 50) := ⟨_, rfl⟩
  obtain ⟨W, hW⟩ := hW
  rw [← hW]
  have hb : Below w.heap.size w W := hW ▸ (Below.refl _ _).alloc (Nat.le_refl _) _
  have hn : W.heap[w.heap.size]? = some (.cells #[.int .i64 0, .int .i64 0, .int .i64 (-524288), .int .u64 0, .int .u64 0, .int .i64 0, .slice none 0 0, .slice none 0 0] 50 (0, 0)) := hW ▸ heap_alloc_new w _
  have HB := Aside0.mk hb
  have HN := Aside0.mk hn
  have cells : ∀ W' : World, W'.heap[w.heap.size]? = some (.cells #[.int .i64 0, .int .i64 0, .int .i64 (-524288), .int .u64 0, .int .u64 0, .int .i64 0, .slice none 0 0, .slice none 0 0] 50 (0, 0)) →
      W'.cell? ⟨w.heap.size, 0, none⟩ = some (.int .i64 0) ∧ W'.cell? ⟨w.heap.size, 1, none⟩ = some (.int .i64 0) ∧ W'.cell? ⟨w.heap.size, 2, none⟩ = some (.int .i64 (-524288)) ∧ W'.cell? ⟨w.heap.size, 3, none⟩ = some (.int .u64 0) ∧ W'.cell? ⟨w.heap.size, 4, none⟩ = some (.int .u64 0) ∧ W'.cell? ⟨w.heap.size, 5, none⟩ = some (.int .i64 0) ∧ W'.cell? ⟨w.heap.size, 6, none⟩ = some (.slice none 0 0) ∧ W'.cell? ⟨w.heap.size, 7, none⟩ = some (.slice none 0 0) :=
    fun W' h => ⟨blk_cell h 0, blk_cell h 1, blk_cell h 2, blk_cell h 3, blk_cell h 4, blk_cell h 5, blk_cell h 6, blk_cell h 7⟩
  have CELLS := Aside0.mk cells
  obtain ⟨o0, o1, o2, o3, o4, o5, o6, o7⟩ := cells W hn
  clear hb hn hW cells
  refine wp_loop_rounds 3 ?_
  rw [rounds_succ]
  go_wp2_with fail
  refine (buckets_0 W).mono ?_
  rintro e w1 ⟨rfl, hb1⟩
  have HB1 := Aside0.mk (HB.out.trans (hb1.mono HB.out.size))
  have HN1 := Aside0.mk ((hb1.block _ (blk_lt HN.out)).trans HN.out)
  clear o0 o1 o2 o3 o4 o5 o6 o7 hb1
  obtain ⟨o0, o1, o2, o3, o4, o5, o6, o7⟩ := CELLS.out w1 HN1.out
  go_wp2_with fail
  rw [rounds_succ]
  go_wp2_with fail
  refine (buckets_0 w1).mono ?_
  rintro e w2 ⟨rfl, hb2⟩
  have HB2 := Aside0.mk (HB1.out.trans (hb2.mono HB1.out.size))
  have HN2 := Aside0.mk ((hb2.block _ (blk_lt HN1.out)).trans HN1.out)
  clear o0 o1 o2 o3 o4 o5 o6 o7 hb2
  obtain ⟨o0, o1, o2, o3, o4, o5, o6, o7⟩ := CELLS.out w2 HN2.out
  go_wp2_with fail
  rw [rounds_succ]
  go_wp2_with fail
  have hZ : ∃ Z, Z = (w2.alloc (.cells #[.int .i64 0, .int .u64 0] 100)).alloc (.cells #[.slice none 0 0, .slice none 0 0, .slice (some ⟨w2.heap.size, 0, none⟩) 1 1] 48) := ⟨_, rfl⟩
  obtain ⟨Z, hZ⟩ := hZ
  rw [← hZ]
  have hbZ : Below w2.heap.size w2 Z := hZ ▸ ((Below.refl _ _).alloc (Nat.le_refl _) _).alloc (by simp) _
  have hz1 : Z.heap[w2.heap.size + 1]? = some (.cells #[.slice none 0 0, .slice none 0 0, .slice (some ⟨w2.heap.size, 0, none⟩) 1 1] 48 (0, 0)) := by
    have := heap_alloc_new (w2.alloc (.cells #[.int .i64 0, .int .u64 0] 100)) (.cells #[.slice none 0 0, .slice none 0 0, .slice (some ⟨w2.heap.size, 0, none⟩) 1 1] 48)
    rw [hZ]; simpa using this
  have hz0 : Z.heap[w2.heap.size]? = some (.cells #[.int .i64 0, .int .u64 0] 100 (0, 0)) := by
    rw [hZ, Below.heap_alloc _ _ _ (by simp)]
    exact heap_alloc_new w2 _
  refine (total_0 Z _ _ (blk_cell hz1 0) (blk_cell hz1 1) (blk_cell hz1 2) (blk_cell hz0 0) (blk_cell hz0 1)).mono ?_
  rintro e w3 ⟨rfl, hb3⟩
  have hb23 := hbZ.trans (hb3.mono hbZ.size)
  have HB3 := Aside0.mk (HB2.out.trans (hb23.mono HB2.out.size))
  have hn3 := (hb23.block _ (blk_lt HN2.out)).trans HN2.out
  clear o0 o1 o2 o3 o4 o5 o6 o7 hbZ hz1 hz0 hZ hb3 hb23
  obtain ⟨o0, o1, o2, o3, o4, o5, o6, o7⟩ := CELLS.out w3 hn3
  clear hn3
  go_wp2
  go_ret
  exact ⟨rfl, HB3.out⟩

end Go.Proofs.Ytieoilnkfnlbaaa
