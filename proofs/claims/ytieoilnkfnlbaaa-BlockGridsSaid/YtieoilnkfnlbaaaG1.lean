/- The sum of nothing; the empty histogram's own check. -/
import Derived.Test.YtieoilnkfnlbaaaWWords
import Derived.Test.YtieoilnkfnlbaaaProg
import Derived.WalkKit
import Derived.Deep.LoopGhost
import Derived.Deep.RegionHeld3
import Derived.BigQuiet
namespace Go.Proofs.Ytieoilnkfnlbaaa
open Go.RowKit Go.Proofs.YtieoilnkfnlbaaaW.PrintWords

/-- A region that draws its order, over a family of worlds in which each operation gives one value. -/
theorem wp_region_family {P : Program} {id : Nat} {Q : Exit → Act → World → Prop} {a : Act} {w : World} {l : List Oper} {T : Type} (f : T → World) (hm : P.follows .mixedOrders = true) (hB : Region.lexB .any l.toArray = true) (hC : ∃ x, w.drew = f x)
    (h : wpQuiet P l.toArray (fun w' => ∃ x, w' = f x) (fun a' => ∀ w', (∃ x, w' = f x) → Q .normal a' w') l a) : (Code.region id l.toArray true).wp P Q a w :=
  wp_region_quiet (C := fun w' => ∃ x, w' = f x) hm hB hC (by simpa using h)

/-- All worlds that come behind W. -/
theorem family (W : World) : ∃ (T : Type) (fw : T → World), (∀ x, Below W.heap.size W (fw x)) ∧ (∀ x W', Below (fw x).heap.size (fw x) W' → ∃ y, W' = fw y) ∧ ∃ x, W.drew = fw x :=
  ⟨{ W' : World // Below W.heap.size W W' }, Subtype.val, fun x => x.2, fun x W' h => ⟨⟨W', x.2.trans (h.mono x.2.size)⟩, rfl⟩, ⟨⟨W.drew, (Below.refl _ _).drew⟩, rfl⟩⟩

theorem add64_0 (w : World) : (callFunc 100 #[.int .u64 0, .int .u64 0, .int .u64 0]).run Try.prog w = .ok (.value (.tuple #[.int .u64 0, .int .u64 0])) w := by kernel_rfl

set_option maxHeartbeats 1000000 in
set_option maxRecDepth 100000 in
/-- Two zeros. -/
theorem add_0 (w : World) (g : Nat) (h0 : w.cell? ⟨g, 0, none⟩ = some (.int .u64 0)) (h1 : w.cell? ⟨g, 1, none⟩ = some (.int .u64 0)) :
    Calls Try.prog 93 #[.slice (some ⟨g, 0, none⟩) 2 2] w fun e w' => e = .returned (.tuple #[.int .u64 0, .int .i64 0]) ∧ w' = w := by
  have ha := add64_0
  go_enter Try.func93, Try.ntmps93
  go_wp2_with fail
  refine wp_loop_rounds 3 ?_
  rw [rounds_succ]
  go_wp2
  rw [rounds_succ]
  go_wp2
  rw [rounds_succ]
  go_wp2
  go_ret2
  exact ⟨rfl, rfl⟩

set_option maxHeartbeats 1000000 in
set_option maxRecDepth 100000 in
/-- No buckets but one of nothing. -/
theorem total_0 (w : World) (g b : Nat) (h0 : w.cell? ⟨g, 0, none⟩ = some (.slice none 0 0)) (h1 : w.cell? ⟨g, 1, none⟩ = some (.slice none 0 0)) (h2 : w.cell? ⟨g, 2, none⟩ = some (.slice (some ⟨b, 0, none⟩) 1 1))
    (k0 : w.cell? ⟨b, 0, none⟩ = some (.int .i64 0)) (k1 : w.cell? ⟨b, 1, none⟩ = some (.int .u64 0)) :
    Calls Try.prog 80 #[.slice (some ⟨g, 0, none⟩) 3 3] w fun e w' => e = .returned (.tuple #[.int .u64 0, .int .i64 0]) ∧ Below w.heap.size w w' := by
  go_enter Try.func80, Try.ntmps80
  go_wp2_with fail
  refine wp_loop_rounds 4 ?_
  rw [rounds_succ]
  go_wp2_with fail
  refine wp_loop_rounds 1 ?_
  rw [rounds_succ]
  go_wp2_with fail
  rw [rounds_succ]
  go_wp2_with fail
  refine wp_loop_rounds 1 ?_
  rw [rounds_succ]
  go_wp2_with fail
  rw [rounds_succ]
  go_wp2_with fail
  refine wp_loop_rounds 2 ?_
  rw [rounds_succ]
  go_wp2_with fail
  have hz : ∃ w2, w2 = (w.alloc (.cells #[.int .i64 0, .int .u64 0] 100)).alloc (.cells #[.int .u64 0, .int .u64 0] 47) := ⟨_, rfl⟩
  obtain ⟨w2, hw2⟩ := hz
  rw [← hw2]
  have hb2 : Below w.heap.size w w2 := hw2 ▸ ((Below.refl _ _).alloc (Nat.le_refl _) _).alloc (by simp) _
  have hn : w2.heap[w.heap.size + 1]? = some (.cells #[.int .u64 0, .int .u64 0] 47 (0, 0)) := by
    have := heap_alloc_new (w.alloc (.cells #[.int .i64 0, .int .u64 0] 100)) (.cells #[.int .u64 0, .int .u64 0] 47)
    rw [hw2]; simpa using this
  refine (add_0 w2 _ (blk_cell hn 0) (blk_cell hn 1)).mono ?_
  rintro e w3 ⟨rfl, hw3⟩
  rw [hw3]
  have c2 : w2.cell? ⟨g, 2, none⟩ = some (.slice (some ⟨b, 0, none⟩) 1 1) := pw_cell_below hb2 h2
  clear hw2 hn hw3
  go_wp2_with fail
  rw [rounds_succ]
  go_wp2_with fail
  rw [rounds_succ]
  go_wp2
  go_ret2
  exact ⟨rfl, hb2⟩

end Go.Proofs.Ytieoilnkfnlbaaa
