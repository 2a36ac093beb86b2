/- Grids: a step of a level has four of the level below. -/
import Derived.Test.YtieoilnkfnlbaaaG0
import Derived.WalkKit
namespace Go.Proofs.Ytieoilnkfnlbaaa
open Go.RowKit Go.Proofs.YtieoilnkfnlbaaaW.PrintWords Go.Proofs.Ytieoilnkfnlbaaa.PBlockGrids

def W_ (k : Int) : Int := if k = 0 then 64 else if k = 1 then 256 else if k = 2 then 1024 else if k = 3 then 4096 else 16384

theorem width_k (k : Int) (h0 : 0 ≤ k) (h4 : k ≤ 4) (w : World) : Calls Try.prog 7 #[.int .i64 k] w fun e w' => e = .returned (.int .i64 (W_ k)) ∧ Below w.heap.size w w' := by
  have : k = 0 ∨ k = 1 ∨ k = 2 ∨ k = 3 ∨ k = 4 := by omega
  rcases this with rfl | rfl | rfl | rfl | rfl
  all_goals exact block_Width.calls _ _ w (by kernel_rfl)

theorem W_pos (k : Int) : 64 ≤ W_ k ∧ W_ k ≤ 16384 := by
  unfold W_
  split
  · omega
  · split
    · omega
    · split
      · omega
      · split <;> omega

theorem wf0 : block_Width.f 0 = some 64 := by kernel_rfl
theorem wf1 : block_Width.f 1 = some 256 := by kernel_rfl
theorem wf2 : block_Width.f 2 = some 1024 := by kernel_rfl
theorem wf3 : block_Width.f 3 = some 4096 := by kernel_rfl
theorem wf4 : block_Width.f 4 = some 16384 := by kernel_rfl
theorem widthF (k : Int) (h0 : 0 ≤ k) (h4 : k ≤ 4) : block_Width.f k = some (W_ k) := by
  have : k = 0 ∨ k = 1 ∨ k = 2 ∨ k = 3 ∨ k = 4 := by omega
  rcases this with rfl | rfl | rfl | rfl | rfl
  · exact wf0
  · exact wf1
  · exact wf2
  · exact wf3
  · exact wf4

theorem wrap_in (x : Int) (h0 : 0 ≤ x) (h1 : x ≤ 8589934592) : wrap64 x = x := by
  unfold wrap64
  omega

theorem lowF (k t : Int) (h0 : 0 ≤ k) (h4 : k ≤ 4) (ht : 0 ≤ t) (ht' : t ≤ 4294967295) : block_Low.f k t = some (t - t % W_ k) := by
  unfold block_Low.f
  rw [widthF k h0 h4]
  have hp := W_pos k
  simp only [Option.bind_some]
  rw [if_neg (by omega), Int.tmod_eq_emod_of_nonneg ht]
  have h1 := Int.emod_nonneg t (show W_ k ≠ 0 by omega)
  have h2 : t % W_ k ≤ t := by
    have h3 := Int.mul_ediv_add_emod t (W_ k)
    have h4' : 0 ≤ t / W_ k := Int.ediv_nonneg ht (by omega)
    have h5 : 0 ≤ W_ k * (t / W_ k) := Int.mul_nonneg (by omega) h4'
    omega
  rw [wrap_in _ (by omega) (by omega)]

theorem low_k (k t : Int) (h0 : 0 ≤ k) (h4 : k ≤ 4) (ht : 0 ≤ t) (ht' : t ≤ 4294967295) (w : World) : Calls Try.prog 5 #[.int .i64 k, .int .i64 t] w fun e w' => e = .returned (.int .i64 (t - t % W_ k)) ∧ Below w.heap.size w w' :=
  block_Low.calls k t _ w (lowF k t h0 h4 ht ht')

theorem right_k (k a : Int) (h0 : 0 ≤ k) (h4 : k ≤ 3) (ha : 0 ≤ a) (ha' : a ≤ 4294967296) (w : World) : Calls Try.prog 8 #[.agg #[.int .i64 a, .int .i64 (a + W_ k), .int .i64 k]] w fun e w' => e = .returned (.bool (decide (a % W_ k = 0))) ∧ Below w.heap.size w w' := by
  refine block_Right.calls a (a + W_ k) k _ w ?_
  have hp := W_pos k
  unfold block_Right.f
  rw [if_neg (by omega), if_neg (by omega), widthF k h0 (by omega)]
  simp only [Option.bind_some]
  rw [if_pos ha, if_pos (by omega), if_neg (by omega), Int.tmod_eq_emod_of_nonneg ha]
  by_cases h : a % W_ k = 0
  · rw [if_pos h, wrap_in _ (by omega) (by omega)]
    simp [h]
  · rw [if_neg h]
    simp [h]

end Go.Proofs.Ytieoilnkfnlbaaa
