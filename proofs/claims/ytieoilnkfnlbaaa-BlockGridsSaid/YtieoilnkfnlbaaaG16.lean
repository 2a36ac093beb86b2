/- BlockGrids: the walk. -/
import Derived.Test.YtieoilnkfnlbaaaG15
import Derived.IntWalk
import Derived.Test.YtieoilnkfnlbaaaG14
namespace Go.Proofs.Ytieoilnkfnlbaaa
open Go.RowKit Go.Proofs.YtieoilnkfnlbaaaW.PrintWords Go.Proofs.Ytieoilnkfnlbaaa.PBlockGrids

set_option maxHeartbeats 8000000 in
set_option maxRecDepth 100000 in
theorem grids_any (w : World) (t level : Int) (ht : 0 ≤ t ∧ t ≤ 4294967295) (hl : 0 ≤ level ∧ level ≤ 255) : Calls Try.prog 3 #[.int .u32 t, .int .u8 level] w fun e w' => e = .returned (.bool true) ∧ Below w.heap.size w w' := by
  obtain ⟨k, hk⟩ : ∃ k, k = level % 4 := ⟨_, rfl⟩
  have hk0 : 0 ≤ k ∧ k ≤ 3 := by omega
  have hmod : Int.tmod level 4 = k := by rw [Int.tmod_eq_emod_of_nonneg hl.1]; exact hk.symm
  obtain ⟨W, hW⟩ : ∃ W, W = W_ k := ⟨_, rfl⟩
  have hW4 : W_ (k + 1) = 4 * W := by
    have : k = 0 ∨ k = 1 ∨ k = 2 ∨ k = 3 := by omega
    rcases this with rfl | rfl | rfl | rfl <;> subst hW <;> rfl
  have hWs : W = 64 ∨ W = 256 ∨ W = 1024 ∨ W = 4096 := by
    have : k = 0 ∨ k = 1 ∨ k = 2 ∨ k = 3 := by omega
    rcases this with rfl | rfl | rfl | rfl
    · exact .inl hW
    · exact .inr (.inl hW)
    · exact .inr (.inr (.inl hW))
    · exact .inr (.inr (.inr hW))
  obtain ⟨a, ha⟩ : ∃ a, a = t - t % W := ⟨_, rfl⟩
  obtain ⟨b, hb⟩ : ∃ b, b = t - t % (4 * W) := ⟨_, rfl⟩
  have L1 := Aside0.mk (show ∀ w, Calls Try.prog 5 #[.int .i64 k, .int .i64 t] w fun e w' => e = .returned (.int .i64 a) ∧ Below w.heap.size w w' from fun w => by rw [ha, hW]; exact low_k k t hk0.1 (by omega) ht.1 ht.2 w)
  have L2 := Aside0.mk (show ∀ w, Calls Try.prog 5 #[.int .i64 (k + 1), .int .i64 t] w fun e w' => e = .returned (.int .i64 b) ∧ Below w.heap.size w w' from fun w => by rw [hb, ← hW4]; exact low_k (k + 1) t (by omega) (by omega) ht.1 ht.2 w)
  have hab : 0 ≤ a ∧ a ≤ 4294967295 ∧ b ≤ a ∧ a + W ≤ b + 4 * W ∧ a - a % (4 * W) = b ∧ a % W = 0 ∧ ¬ (a + 1) % W = 0 ∧ 0 ≤ b ∧ 64 ≤ W ∧ W ≤ 4096 := by
    rcases hWs with rfl | rfl | rfl | rfl <;> omega
  have L3 := Aside0.mk (show ∀ w, Calls Try.prog 5 #[.int .i64 (k + 1), .int .i64 a] w fun e w' => e = .returned (.int .i64 b) ∧ Below w.heap.size w w' from fun w => by
    have := low_k (k + 1) a (by omega) (by omega) hab.1 hab.2.1 w
    rw [hW4, hab.2.2.2.2.1] at this
    exact this)
  have W1 := Aside0.mk (show ∀ w, Calls Try.prog 7 #[.int .i64 (k + 1)] w fun e w' => e = .returned (.int .i64 (4 * W)) ∧ Below w.heap.size w w' from fun w => by rw [← hW4]; exact width_k (k + 1) (by omega) (by omega) w)
  have W0 := Aside0.mk (show ∀ w, Calls Try.prog 7 #[.int .i64 k] w fun e w' => e = .returned (.int .i64 W) ∧ Below w.heap.size w w' from fun w => by rw [hW]; exact width_k k hk0.1 (by omega) w)
  have R1 := Aside0.mk (show ∀ w, Calls Try.prog 8 #[.agg #[.int .i64 a, .int .i64 (a + W), .int .i64 k]] w fun e w' => e = .returned (.bool true) ∧ Below w.heap.size w w' from fun w => by
    have := right_k k a hk0.1 hk0.2 hab.1 (by omega) w
    rw [← hW, decide_eq_true hab.2.2.2.2.2.1] at this
    exact this)
  have R2 := Aside0.mk (show ∀ w, Calls Try.prog 8 #[.agg #[.int .i64 (a + 1), .int .i64 (a + 1 + W), .int .i64 k]] w fun e w' => e = .returned (.bool false) ∧ Below w.heap.size w w' from fun w => by
    have := right_k k (a + 1) hk0.1 hk0.2 (by omega) (by omega) w
    rw [← hW, decide_eq_false hab.2.2.2.2.2.2.1] at this
    exact this)
  have q1 : wrap64 (k + 1) = k + 1 := wrap_in _ (by omega) (by omega)
  have p1 : IntKind.i64.wrap ((k + 1)) = k + 1 := IntWalk.i64_in _ (by omega)
  have q2 : wrap64 (4 * W) = 4 * W := wrap_in _ (by omega) (by omega)
  have p2 : IntKind.i64.wrap ((4 * W)) = 4 * W := IntWalk.i64_in _ (by omega)
  have q3 : wrap64 (a + W) = a + W := wrap_in _ (by omega) (by omega)
  have p3 : IntKind.i64.wrap ((a + W)) = a + W := IntWalk.i64_in _ (by omega)
  have q4 : wrap64 (b + 4 * W) = b + 4 * W := wrap_in _ (by omega) (by omega)
  have p4 : IntKind.i64.wrap ((b + 4 * W)) = b + 4 * W := IntWalk.i64_in _ (by omega)
  have q5 : wrap64 (a + 1) = a + 1 := wrap_in _ (by omega) (by omega)
  have p5 : IntKind.i64.wrap ((a + 1)) = a + 1 := IntWalk.i64_in _ (by omega)
  have q6 : wrap64 (a + 1 + W) = a + 1 + W := wrap_in _ (by omega) (by omega)
  have p6 : IntKind.i64.wrap ((a + 1 + W)) = a + 1 + W := IntWalk.i64_in _ (by omega)
  have q7 : wrap64 t = t := wrap_in _ (by omega) (by omega)
  have p7 : IntKind.i64.wrap (t) = t := IntWalk.i64_in _ (by omega)
  have q8 : wrap64 k = k := wrap_in _ (by omega) (by omega)
  have p8 : IntKind.i64.wrap (k) = k := IntWalk.i64_in _ (by omega)
  have d1 : decide (b ≤ a) = true := decide_eq_true hab.2.2.1
  have d2 : decide (a + W ≤ b + 4 * W) = true := decide_eq_true hab.2.2.2.1
  have HB := Aside0.mk (Below.refl w.heap.size w)
  clear hk hk0 hW hW4 hWs ha hb hab ht hl
  go_enter Try.func3, Try.ntmps3
  go_wp2_with fail
  refine (L1.out _).mono ?_
  rintro e w' ⟨rfl, hb⟩
  replace HB := Aside0.mk (HB.out.trans (hb.mono HB.out.size))
  clear hb
  go_wp2_with fail
  refine (L2.out _).mono ?_
  rintro e w' ⟨rfl, hb⟩
  replace HB := Aside0.mk (HB.out.trans (hb.mono HB.out.size))
  clear hb
  go_wp2_with fail
  refine (awake_any _).mono ?_
  rintro e w' ⟨rfl, hb⟩
  replace HB := Aside0.mk (HB.out.trans (hb.mono HB.out.size))
  clear hb
  go_wp2_with fail
  refine (W1.out _).mono ?_
  rintro e w' ⟨rfl, hb⟩
  replace HB := Aside0.mk (HB.out.trans (hb.mono HB.out.size))
  clear hb
  go_wp2_with fail
  refine (W0.out _).mono ?_
  rintro e w' ⟨rfl, hb⟩
  replace HB := Aside0.mk (HB.out.trans (hb.mono HB.out.size))
  clear hb
  go_wp2_with fail
  refine (W0.out _).mono ?_
  rintro e w' ⟨rfl, hb⟩
  replace HB := Aside0.mk (HB.out.trans (hb.mono HB.out.size))
  clear hb
  go_wp2_with fail
  refine (W1.out _).mono ?_
  rintro e w' ⟨rfl, hb⟩
  replace HB := Aside0.mk (HB.out.trans (hb.mono HB.out.size))
  clear hb
  go_wp2_with fail
  refine (L3.out _).mono ?_
  rintro e w' ⟨rfl, hb⟩
  replace HB := Aside0.mk (HB.out.trans (hb.mono HB.out.size))
  clear hb
  go_wp2_with fail
  refine (W0.out _).mono ?_
  rintro e w' ⟨rfl, hb⟩
  replace HB := Aside0.mk (HB.out.trans (hb.mono HB.out.size))
  clear hb
  go_wp2_with fail
  refine (R1.out _).mono ?_
  rintro e w' ⟨rfl, hb⟩
  replace HB := Aside0.mk (HB.out.trans (hb.mono HB.out.size))
  clear hb
  go_wp2_with fail
  refine (W0.out _).mono ?_
  rintro e w' ⟨rfl, hb⟩
  replace HB := Aside0.mk (HB.out.trans (hb.mono HB.out.size))
  clear hb
  go_wp2_with fail
  refine (R2.out _).mono ?_
  rintro e w' ⟨rfl, hb⟩
  replace HB := Aside0.mk (HB.out.trans (hb.mono HB.out.size))
  clear hb
  go_wp2
  go_ret
  exact ⟨rfl, HB.out⟩

end Go.Proofs.Ytieoilnkfnlbaaa
