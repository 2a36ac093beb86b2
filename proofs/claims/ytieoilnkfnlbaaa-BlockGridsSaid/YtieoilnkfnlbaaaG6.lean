/- Two samples that rise. -/
import Derived.Test.YtieoilnkfnlbaaaG2
namespace Go.Proofs.Ytieoilnkfnlbaaa
open Go.RowKit Go.Proofs.YtieoilnkfnlbaaaW.PrintWords

/-- A sample's cells. -/
abbrev sampleCells (t : Int) : List Value := [.int .i64 t, .int .i64 0, .int .i64 0, .int .i64 (-524288), .int .u64 0, .int .u64 0, .int .i64 0, .slice none 0 0, .slice none 0 0]

/-- Two samples, at 0 and at 63, in block g. -/
def TwoAt (w : World) (g : Nat) : Prop := ∀ j v, (sampleCells 0 ++ sampleCells 63)[j]? = some v → w.cell? ⟨g, j, none⟩ = some v

theorem TwoAt.below {w w' : World} {g : Nat} (h : TwoAt w g) (hb : Below w.heap.size w w') : TwoAt w' g := fun j v hj => pw_cell_below hb (h j v hj)

set_option maxHeartbeats 4000000 in
set_option maxRecDepth 100000 in
theorem rising_2 (w : World) (g c : Nat) (h : TwoAt w g) : Calls Try.prog 30 #[.slice (some ⟨g, 0, none⟩) 2 c] w fun e w' => e = .returned (.bool true) ∧ Below w.heap.size w w' := by
  have H := Aside0.mk h
  have c0 : w.cell? ⟨g, 0, none⟩ = _ := h 0 _ rfl
  have c1 : w.cell? ⟨g, 1, none⟩ = _ := h 1 _ rfl
  have c2 : w.cell? ⟨g, 2, none⟩ = _ := h 2 _ rfl
  have c3 : w.cell? ⟨g, 3, none⟩ = _ := h 3 _ rfl
  have c4 : w.cell? ⟨g, 4, none⟩ = _ := h 4 _ rfl
  have c5 : w.cell? ⟨g, 5, none⟩ = _ := h 5 _ rfl
  have c6 : w.cell? ⟨g, 6, none⟩ = _ := h 6 _ rfl
  have c7 : w.cell? ⟨g, 7, none⟩ = _ := h 7 _ rfl
  have c8 : w.cell? ⟨g, 8, none⟩ = _ := h 8 _ rfl
  clear h
  go_enter Try.func30, Try.ntmps30
  go_wp2_with fail
  refine wp_loop_rounds 3 ?_
  rw [rounds_succ]
  go_upto_region 4 with fail
  have hW : ∃ W, W = (w).alloc (.cells #[.int .i64 0, .int .i64 0, .int .i64 0, .int .i64 (-524288), .int .u64 0, .int .u64 0, .int .i64 0, .slice none 0 0, .slice none 0 0] 56) := ⟨_, rfl⟩
  obtain ⟨W1, hW⟩ := hW
  rw [← hW]
  have hb : Below (w).heap.size (w) W1 := hW ▸ (Below.refl _ _).alloc (Nat.le_refl _) _
  have hn : W1.heap[(w).heap.size]? = some (.cells #[.int .i64 0, .int .i64 0, .int .i64 0, .int .i64 (-524288), .int .u64 0, .int .u64 0, .int .i64 0, .slice none 0 0, .slice none 0 0] 56 (0, 0)) := hW ▸ heap_alloc_new (w) _
  have hsz : (w).heap.size < W1.heap.size := blk_lt hn
  obtain ⟨T1, f1, kb, kn, ⟨x1, hx⟩⟩ := family W1
  have e0 : ∀ x, (f1 x).cell? ⟨(w).heap.size, 0, none⟩ = some (.int .i64 0) := fun x => pw_cell_below (kb x) (blk_cell hn 0)
  have e1 : ∀ x, (f1 x).cell? ⟨(w).heap.size, 1, none⟩ = some (.int .i64 0) := fun x => pw_cell_below (kb x) (blk_cell hn 1)
  have e2 : ∀ x, (f1 x).cell? ⟨(w).heap.size, 2, none⟩ = some (.int .i64 0) := fun x => pw_cell_below (kb x) (blk_cell hn 2)
  have e3 : ∀ x, (f1 x).cell? ⟨(w).heap.size, 3, none⟩ = some (.int .i64 (-524288)) := fun x => pw_cell_below (kb x) (blk_cell hn 3)
  have e4 : ∀ x, (f1 x).cell? ⟨(w).heap.size, 4, none⟩ = some (.int .u64 0) := fun x => pw_cell_below (kb x) (blk_cell hn 4)
  have e5 : ∀ x, (f1 x).cell? ⟨(w).heap.size, 5, none⟩ = some (.int .u64 0) := fun x => pw_cell_below (kb x) (blk_cell hn 5)
  have e6 : ∀ x, (f1 x).cell? ⟨(w).heap.size, 6, none⟩ = some (.int .i64 0) := fun x => pw_cell_below (kb x) (blk_cell hn 6)
  have e7 : ∀ x, (f1 x).cell? ⟨(w).heap.size, 7, none⟩ = some (.slice none 0 0) := fun x => pw_cell_below (kb x) (blk_cell hn 7)
  have e8 : ∀ x, (f1 x).cell? ⟨(w).heap.size, 8, none⟩ = some (.slice none 0 0) := fun x => pw_cell_below (kb x) (blk_cell hn 8)
  have KC := Aside0.mk (show ∀ x, Calls Try.prog 46 #[emptyH] (f1 x) (fun e w' => e = .returned (.int .i64 0) ∧ ∃ y, w' = f1 y) from fun x => (check_0 (f1 x)).mono fun e w' ⟨he, hw⟩ => ⟨he, kn x w' hw⟩)
  have KB1 := Aside0.mk kb
  have KX := Aside0.mk hx
  have HB1 := Aside0.mk hb
  haveI : Nonempty T1 := ⟨x1⟩
  clear kb kn hx hb hn hW hsz
  refine wp_region_family f1 (by kernel_rfl) (by kernel_rfl) ⟨x1, KX.out⟩ ?_
  repeat (first | go_big_quiet_step ((go_at_call 46; exact KC.out _)) | quiet_step (fail))
  refine wpQuiet_nil ?_
  rintro w' ⟨y1, rfl⟩
  clear e0 e1 e2 e3 e4 e5 e6 e7 e8 KC KX
  clear c0 c1 c2 c3 c4 c5 c6 c7 c8
  have HB2a := Aside0.mk (HB1.out.trans ((KB1.out y1).mono HB1.out.size))
  have c0 : (f1 y1).cell? ⟨g, 9, none⟩ = _ := (H.out.below HB2a.out) 9 _ rfl
  have c1 : (f1 y1).cell? ⟨g, 10, none⟩ = _ := (H.out.below HB2a.out) 10 _ rfl
  have c2 : (f1 y1).cell? ⟨g, 11, none⟩ = _ := (H.out.below HB2a.out) 11 _ rfl
  have c3 : (f1 y1).cell? ⟨g, 12, none⟩ = _ := (H.out.below HB2a.out) 12 _ rfl
  have c4 : (f1 y1).cell? ⟨g, 13, none⟩ = _ := (H.out.below HB2a.out) 13 _ rfl
  have c5 : (f1 y1).cell? ⟨g, 14, none⟩ = _ := (H.out.below HB2a.out) 14 _ rfl
  have c6 : (f1 y1).cell? ⟨g, 15, none⟩ = _ := (H.out.below HB2a.out) 15 _ rfl
  have c7 : (f1 y1).cell? ⟨g, 16, none⟩ = _ := (H.out.below HB2a.out) 16 _ rfl
  have c8 : (f1 y1).cell? ⟨g, 17, none⟩ = _ := (H.out.below HB2a.out) 17 _ rfl
  go_wp2_with fail
  rw [rounds_succ]
  go_upto_region 4 with fail
  have hW : ∃ W, W = (f1 y1).alloc (.cells #[.int .i64 63, .int .i64 0, .int .i64 0, .int .i64 (-524288), .int .u64 0, .int .u64 0, .int .i64 0, .slice none 0 0, .slice none 0 0] 56) := ⟨_, rfl⟩
  obtain ⟨W2, hW⟩ := hW
  rw [← hW]
  have hb : Below (f1 y1).heap.size (f1 y1) W2 := hW ▸ (Below.refl _ _).alloc (Nat.le_refl _) _
  have hn : W2.heap[(f1 y1).heap.size]? = some (.cells #[.int .i64 63, .int .i64 0, .int .i64 0, .int .i64 (-524288), .int .u64 0, .int .u64 0, .int .i64 0, .slice none 0 0, .slice none 0 0] 56 (0, 0)) := hW ▸ heap_alloc_new (f1 y1) _
  have hsz : (f1 y1).heap.size < W2.heap.size := blk_lt hn
  obtain ⟨T2, f2, kb, kn, ⟨x2, hx⟩⟩ := family W2
  have e0 : ∀ x, (f2 x).cell? ⟨(f1 y1).heap.size, 0, none⟩ = some (.int .i64 63) := fun x => pw_cell_below (kb x) (blk_cell hn 0)
  have e1 : ∀ x, (f2 x).cell? ⟨(f1 y1).heap.size, 1, none⟩ = some (.int .i64 0) := fun x => pw_cell_below (kb x) (blk_cell hn 1)
  have e2 : ∀ x, (f2 x).cell? ⟨(f1 y1).heap.size, 2, none⟩ = some (.int .i64 0) := fun x => pw_cell_below (kb x) (blk_cell hn 2)
  have e3 : ∀ x, (f2 x).cell? ⟨(f1 y1).heap.size, 3, none⟩ = some (.int .i64 (-524288)) := fun x => pw_cell_below (kb x) (blk_cell hn 3)
  have e4 : ∀ x, (f2 x).cell? ⟨(f1 y1).heap.size, 4, none⟩ = some (.int .u64 0) := fun x => pw_cell_below (kb x) (blk_cell hn 4)
  have e5 : ∀ x, (f2 x).cell? ⟨(f1 y1).heap.size, 5, none⟩ = some (.int .u64 0) := fun x => pw_cell_below (kb x) (blk_cell hn 5)
  have e6 : ∀ x, (f2 x).cell? ⟨(f1 y1).heap.size, 6, none⟩ = some (.int .i64 0) := fun x => pw_cell_below (kb x) (blk_cell hn 6)
  have e7 : ∀ x, (f2 x).cell? ⟨(f1 y1).heap.size, 7, none⟩ = some (.slice none 0 0) := fun x => pw_cell_below (kb x) (blk_cell hn 7)
  have e8 : ∀ x, (f2 x).cell? ⟨(f1 y1).heap.size, 8, none⟩ = some (.slice none 0 0) := fun x => pw_cell_below (kb x) (blk_cell hn 8)
  have KC := Aside0.mk (show ∀ x, Calls Try.prog 46 #[emptyH] (f2 x) (fun e w' => e = .returned (.int .i64 0) ∧ ∃ y, w' = f2 y) from fun x => (check_0 (f2 x)).mono fun e w' ⟨he, hw⟩ => ⟨he, kn x w' hw⟩)
  have KB2 := Aside0.mk kb
  have KX := Aside0.mk hx
  have HB2 := Aside0.mk hb
  have g0 : ∀ x, (f2 x).cell? ⟨g, 0, none⟩ = some (.int .i64 0) := fun x => pw_cell_below (kb x) (pw_cell_below hb (H.out.below HB2a.out 0 _ rfl))
  haveI : Nonempty T2 := ⟨x2⟩
  clear kb kn hx hb hn hW hsz
  refine wp_region_family f2 (by kernel_rfl) (by kernel_rfl) ⟨x2, KX.out⟩ ?_
  repeat (first | go_big_quiet_step ((go_at_call 46; exact KC.out _)) | quiet_step (fail))
  refine wpQuiet_nil ?_
  rintro w' ⟨y2, rfl⟩
  clear e0 e1 e2 e3 e4 e5 e6 e7 e8 KC KX
  clear c0 c1 c2 c3 c4 c5 c6 c7 c8 g0
  go_wp2_with fail
  rw [rounds_succ]
  go_wp2
  go_ret
  exact ⟨rfl, HB2a.out.trans ((HB2.out.trans ((KB2.out y2).mono HB2.out.size)).mono HB2a.out.size)⟩

end Go.Proofs.Ytieoilnkfnlbaaa
