/- A block of one row of two samples may be. -/
import Derived.Test.YtieoilnkfnlbaaaG5
import Derived.Test.YtieoilnkfnlbaaaG6
import Derived.Test.YtieoilnkfnlbaaaG0
namespace Go.Proofs.Ytieoilnkfnlbaaa
open Go.RowKit Go.Proofs.YtieoilnkfnlbaaaW.PrintWords Go.Proofs.Ytieoilnkfnlbaaa.PBlockGrids

theorem right_64 (w : World) : Calls Try.prog 8 #[.agg #[.int .i64 0, .int .i64 64, .int .i64 0]] w fun e w' => e = .returned (.bool true) ∧ Below w.heap.size w w' :=
  block_Right.calls 0 64 0 true w (by kernel_rfl)

set_option maxHeartbeats 4000000 in
set_option maxRecDepth 100000 in
theorem check_1 (w : World) (r c g c2 : Nat) (h0 : w.cell? ⟨r, 0, none⟩ = some (.string keyB)) (h1 : w.cell? ⟨r, 1, none⟩ = some (.slice (some ⟨g, 0, none⟩) 2 c2)) (h : TwoAt w g) :
    Calls Try.prog 16 #[.agg #[.int .i64 0, .int .i64 64, .int .i64 0, .slice (some ⟨r, 0, none⟩) 1 c]] w fun e w' => e = .returned (.int .i64 0) ∧ Below w.heap.size w w' := by
  have H := Aside0.mk h
  clear h
  go_enter Try.func16, Try.ntmps16
  have hW : ∃ W, W = w.alloc (.cells #[.int .i64 0, .int .i64 64, .int .i64 0, .slice (some ⟨r, 0, none⟩) 1 c] 42) := ⟨_, rfl⟩
  obtain ⟨W, hW⟩ := hW
  have hb : Below w.heap.size w W := hW ▸ (Below.refl _ _).alloc (Nat.le_refl _) _
  have hn : W.heap[w.heap.size]? = some (.cells #[.int .i64 0, .int .i64 64, .int .i64 0, .slice (some ⟨r, 0, none⟩) 1 c] 42 (0, 0)) := hW ▸ heap_alloc_new w _
  have HB := Aside0.mk hb
  have HN := Aside0.mk hn
  have H0 := Aside0.mk h0
  have H1 := Aside0.mk h1
  clear hb hn h0 h1
  go_wp2_with fail
  rw [← hW]
  clear hW
  refine (right_64 W).mono ?_
  rintro e w1 ⟨rfl, hb1⟩
  have hn1 := (hb1.block _ (blk_lt HN.out)).trans HN.out
  have b0 : w1.cell? ⟨w.heap.size, 0, none⟩ = some (.int .i64 0) := blk_cell hn1 0
  have b1 : w1.cell? ⟨w.heap.size, 1, none⟩ = some (.int .i64 64) := blk_cell hn1 1
  have b3 : w1.cell? ⟨w.heap.size, 3, none⟩ = some (.slice (some ⟨r, 0, none⟩) 1 c) := blk_cell hn1 3
  have HB1 := Aside0.mk (HB.out.trans (hb1.mono HB.out.size))
  have HN1 := Aside0.mk hn1
  have r0 := pw_cell_below HB1.out H0.out
  have r1 := pw_cell_below HB1.out H1.out
  clear hb1 hn1
  go_wp2_with fail
  refine wp_loop_rounds 2 ?_
  rw [rounds_succ]
  go_wp2_with fail
  have hX : ∃ X, X = w1.alloc (.cells #[.string keyB, .slice (some ⟨g, 0, none⟩) 2 c2] 36) := ⟨_, rfl⟩
  obtain ⟨X, hX⟩ := hX
  rw [← hX]
  have hbX : Below w1.heap.size w1 X := hX ▸ (Below.refl _ _).alloc (Nat.le_refl _) _
  have hnX : X.heap[w1.heap.size]? = some (.cells #[.string keyB, .slice (some ⟨g, 0, none⟩) 2 c2] 36 (0, 0)) := hX ▸ heap_alloc_new w1 _
  refine (from_key X).mono ?_
  rintro e w2 ⟨vl, rfl, hb2⟩
  have hb12 := hbX.trans (hb2.mono hbX.size)
  have HB2 := Aside0.mk (HB1.out.trans (hb12.mono HB1.out.size))
  have HN2 := Aside0.mk ((hb2.block _ (blk_lt hnX)).trans hnX)
  have HM2 := Aside0.mk ((hb12.block _ (blk_lt HN1.out)).trans HN1.out)
  clear b0 b1 b3 r0 r1 hX hbX hnX hb2 hb12
  go_upto_region 9 with fail
  obtain ⟨T1, f1, kb, kn, ⟨x1, hx⟩⟩ := family w2
  have KB1 := Aside0.mk kb
  have KX := Aside0.mk hx
  haveI : Nonempty T1 := ⟨x1⟩
  clear kb kn hx
  refine wp_region_family f1 (by kernel_rfl) (by kernel_rfl) ⟨x1, KX.out⟩ ?_
  repeat (first | go_big_quiet_step ((fail)) | quiet_step (fail))
  refine wpQuiet_nil ?_
  rintro w' ⟨y1, rfl⟩
  have HB3 := Aside0.mk (HB2.out.trans ((KB1.out y1).mono HB2.out.size))
  have HN3 := Aside0.mk (((KB1.out y1).block _ (blk_lt HN2.out)).trans HN2.out)
  have HM3 := Aside0.mk (((KB1.out y1).block _ (blk_lt HM2.out)).trans HM2.out)
  have s1 : (f1 y1).cell? ⟨w1.heap.size, 1, none⟩ = some (.slice (some ⟨g, 0, none⟩) 2 c2) := blk_cell HN3.out 1
  go_upto_region 12 with fail
  clear s1
  have H3 := Aside0.mk (H.out.below HB3.out)
  obtain ⟨T2, f2, kb, kn, ⟨x2, hx⟩⟩ := family (f1 y1)
  have e1 : ∀ x, (f2 x).cell? ⟨w1.heap.size, 1, none⟩ = some (.slice (some ⟨g, 0, none⟩) 2 c2) := fun x => pw_cell_below (kb x) (blk_cell HN3.out 1)
  have e2 : ∀ x, (f2 x).cell? ⟨w.heap.size, 0, none⟩ = some (.int .i64 0) := fun x => pw_cell_below (kb x) (blk_cell HM3.out 0)
  have e3 : ∀ x, (f2 x).cell? ⟨w.heap.size, 1, none⟩ = some (.int .i64 64) := fun x => pw_cell_below (kb x) (blk_cell HM3.out 1)
  have e4 : ∀ x, (f2 x).cell? ⟨g, 0, none⟩ = some (.int .i64 0) := fun x => pw_cell_below (kb x) (H3.out 0 _ rfl)
  have e5 : ∀ x, (f2 x).cell? ⟨g, 9, none⟩ = some (.int .i64 63) := fun x => pw_cell_below (kb x) (H3.out 9 _ rfl)
  have KC := Aside0.mk (show ∀ x, Calls Try.prog 30 #[.slice (some ⟨g, 0, none⟩) 2 c2] (f2 x) (fun e w' => e = .returned (.bool true) ∧ ∃ y, w' = f2 y) from fun x => (rising_2 (f2 x) g c2 (H3.out.below (kb x))).mono fun e w' ⟨he, hw⟩ => ⟨he, kn x w' hw⟩)
  have KB2 := Aside0.mk kb
  have KX2 := Aside0.mk hx
  haveI : Nonempty T2 := ⟨x2⟩
  clear kb kn hx
  refine wp_region_family f2 (by kernel_rfl) (by kernel_rfl) ⟨x2, KX2.out⟩ ?_
  repeat (first | go_big_quiet_step ((go_at_call 30; exact KC.out _)) | quiet_step (fail))
  refine wpQuiet_nil ?_
  rintro w' ⟨y2, rfl⟩
  clear e1 e2 e3 e4 e5
  go_wp2_with fail
  rw [rounds_succ]
  go_wp2
  go_ret
  exact ⟨rfl, HB3.out.trans ((KB2.out y2).mono HB3.out.size)⟩

end Go.Proofs.Ytieoilnkfnlbaaa
