/- Two blocks, sorted: the library's walk at two. -/
import Derived.Test.YtieoilnkfnlbaaaG8
namespace Go.Proofs.Ytieoilnkfnlbaaa
open Go.RowKit Go.Proofs.YtieoilnkfnlbaaaW.PrintWords

/-- What sorting two blocks comes to. -/
def SortPost (w : World) (g : Nat) (a : Int) (u : Value) (b : Int) (v : Value) (e : Ending) (w' : World) : Prop :=
  e = .returned (.tuple #[]) ∧ Begins w' g (twoBlocks a u b v) ∧ Only g w w'

set_option maxHeartbeats 4000000 in
set_option maxRecDepth 100000 in
/-- In order. -/
theorem insert_up (w : World) (g c : Nat) (u v : Value) (h : Begins w g (twoBlocks 0 u 64 v)) :
    Calls Try.prog 52 #[.slice (some ⟨g, 0, none⟩) 2 c, .int .i64 0, .int .i64 2, .func (.func 20) #[] #[]] w (SortPost w g 0 u 64 v) := by
  have H := Aside0.mk h
  clear h
  go_enter Try.func52, Try.ntmps52
  go_wp2_with fail
  refine wp_loop_rounds 2 ?_
  rw [rounds_succ]
  go_wp2_with fail
  refine wp_loop_rounds 1 ?_
  rw [rounds_succ]
  go_upto_region 4 with fail
  obtain ⟨T1, f1, kb, kn, ⟨x1, hx⟩⟩ := family w
  have e0 : ∀ x, (f1 x).cell? ⟨g, 0, none⟩ = some (.int .i64 0) := fun x => pw_cell_below (kb x) (H.out.cell 0 _ rfl)
  have e1 : ∀ x, (f1 x).cell? ⟨g, 1, none⟩ = some (.int .i64 (0 + 64)) := fun x => pw_cell_below (kb x) (H.out.cell 1 _ rfl)
  have e2 : ∀ x, (f1 x).cell? ⟨g, 2, none⟩ = some (.int .i64 0) := fun x => pw_cell_below (kb x) (H.out.cell 2 _ rfl)
  have e3 : ∀ x, (f1 x).cell? ⟨g, 3, none⟩ = some u := fun x => pw_cell_below (kb x) (H.out.cell 3 _ rfl)
  have e4 : ∀ x, (f1 x).cell? ⟨g, 4, none⟩ = some (.int .i64 64) := fun x => pw_cell_below (kb x) (H.out.cell 4 _ rfl)
  have e5 : ∀ x, (f1 x).cell? ⟨g, 5, none⟩ = some (.int .i64 (64 + 64)) := fun x => pw_cell_below (kb x) (H.out.cell 5 _ rfl)
  have e6 : ∀ x, (f1 x).cell? ⟨g, 6, none⟩ = some (.int .i64 0) := fun x => pw_cell_below (kb x) (H.out.cell 6 _ rfl)
  have e7 : ∀ x, (f1 x).cell? ⟨g, 7, none⟩ = some v := fun x => pw_cell_below (kb x) (H.out.cell 7 _ rfl)
  have iw : IntKind.i64.wrap 1 = 1 := by kernel_rfl
  have KC := Aside0.mk (show ∀ x, Calls Try.prog 20 #[blkV 64 v, blkV 0 u] (f1 x) (fun e w' => e = .returned (.int .i64 1) ∧ ∃ y, w' = f1 y) from fun x => (cmp_b (f1 x) 64 0 v u).mono fun e w' ⟨he, hw⟩ => ⟨he, kn x w' hw⟩)
  have KB := Aside0.mk kb
  have KX := Aside0.mk hx
  haveI : Nonempty T1 := ⟨x1⟩
  clear kb kn hx
  refine wp_region_family f1 (by kernel_rfl) (by kernel_rfl) ⟨x1, KX.out⟩ ?_
  repeat (first | go_big_quiet_step ((go_at_call 20; exact KC.out _)) | quiet_step (fail))
  refine wpQuiet_nil ?_
  rintro w' ⟨y1, rfl⟩
  clear e0 e1 e2 e3 e4 e5 e6 e7
  go_wp2_with fail
  rw [rounds_succ]
  go_wp2
  go_end0
  exact ⟨rfl, H.out.keep ((KB.out y1).block _ H.out.lt), Only.of_below (KB.out y1)⟩

theorem Begins.drew {w : World} {g : Nat} {cs : List Value} (h : Begins w g cs) : Begins w.drew g cs := h
theorem Only.drew {g : Nat} {w w' : World} (h : Only g w w') : Only g w w'.drew := ⟨h.os, h.tape, h.output, h.size, h.block⟩
theorem Begins.as {w : World} {g : Nat} {cs ds : List Value} (h : Begins w g cs) (e : cs = ds) : Begins w g ds := e ▸ h

set_option maxHeartbeats 4000000 in
set_option maxRecDepth 100000 in
/-- The other way round. -/
theorem insert_down (w : World) (g c : Nat) (A1 A2 : Option Addr) (n1 c1 n2 c2 : Nat) (u v : Value) (hu : u = .slice A1 n1 c1) (hv : v = .slice A2 n2 c2) (h : Begins w g (twoBlocks 64 u 0 v)) :
    Calls Try.prog 52 #[.slice (some ⟨g, 0, none⟩) 2 c, .int .i64 0, .int .i64 2, .func (.func 20) #[] #[]] w (SortPost w g 0 v 64 u) := by
  subst hu hv
  have H := Aside0.mk h
  clear h
  go_enter Try.func52, Try.ntmps52
  go_wp2_with fail
  refine wp_loop_rounds 2 ?_
  rw [rounds_succ]
  go_wp2_with fail
  refine wp_loop_rounds 2 ?_
  rw [rounds_succ]
  go_upto_region 4 with fail
  obtain ⟨T1, f1, kb, kn, ⟨x1, hx⟩⟩ := family w
  have e0 : ∀ x, (f1 x).cell? ⟨g, 0, none⟩ = some (.int .i64 64) := fun x => pw_cell_below (kb x) (H.out.cell 0 _ rfl)
  have e1 : ∀ x, (f1 x).cell? ⟨g, 1, none⟩ = some (.int .i64 (64 + 64)) := fun x => pw_cell_below (kb x) (H.out.cell 1 _ rfl)
  have e2 : ∀ x, (f1 x).cell? ⟨g, 2, none⟩ = some (.int .i64 0) := fun x => pw_cell_below (kb x) (H.out.cell 2 _ rfl)
  have e3 : ∀ x, (f1 x).cell? ⟨g, 3, none⟩ = some (.slice A1 n1 c1) := fun x => pw_cell_below (kb x) (H.out.cell 3 _ rfl)
  have e4 : ∀ x, (f1 x).cell? ⟨g, 4, none⟩ = some (.int .i64 0) := fun x => pw_cell_below (kb x) (H.out.cell 4 _ rfl)
  have e5 : ∀ x, (f1 x).cell? ⟨g, 5, none⟩ = some (.int .i64 (0 + 64)) := fun x => pw_cell_below (kb x) (H.out.cell 5 _ rfl)
  have e6 : ∀ x, (f1 x).cell? ⟨g, 6, none⟩ = some (.int .i64 0) := fun x => pw_cell_below (kb x) (H.out.cell 6 _ rfl)
  have e7 : ∀ x, (f1 x).cell? ⟨g, 7, none⟩ = some (.slice A2 n2 c2) := fun x => pw_cell_below (kb x) (H.out.cell 7 _ rfl)
  have iw : IntKind.i64.wrap 1 = 1 := by kernel_rfl
  have iz : IntKind.i64.wrap 0 = 0 := by kernel_rfl
  have KC := Aside0.mk (show ∀ x, Calls Try.prog 20 #[blkV 0 (.slice A2 n2 c2), blkV 64 (.slice A1 n1 c1)] (f1 x) (fun e w' => e = .returned (.int .i64 (-1)) ∧ ∃ y, w' = f1 y) from fun x => (cmp_b (f1 x) 0 64 _ _).mono fun e w' ⟨he, hw⟩ => ⟨he, kn x w' hw⟩)
  have KB := Aside0.mk kb
  have KX := Aside0.mk hx
  haveI : Nonempty T1 := ⟨x1⟩
  clear kb kn hx
  refine wp_region_family f1 (by kernel_rfl) (by kernel_rfl) ⟨x1, KX.out⟩ ?_
  repeat (first | go_big_quiet_step ((go_at_call 20; exact KC.out _)) | quiet_step (fail))
  refine wpQuiet_nil ?_
  rintro w' ⟨y1, rfl⟩
  clear e0 e1 e2 e3 e4 e5 e6 e7 KC
  have HW := Aside0.mk (H.out.keep ((KB.out y1).block _ H.out.lt))
  have HO := Aside0.mk (Only.of_below (g := g) (KB.out y1))
  clear KB KX
  obtain ⟨W, hW⟩ : ∃ W, W = f1 y1 := ⟨_, rfl⟩
  rw [← hW] at HW HO ⊢
  clear hW
  have e0 := HW.out.cell 0 _ rfl
  have e1 := HW.out.cell 1 _ rfl
  have e2 := HW.out.cell 2 _ rfl
  have e3 := HW.out.cell 3 _ rfl
  have e4 := HW.out.cell 4 _ rfl
  have e5 := HW.out.cell 5 _ rfl
  have e6 := HW.out.cell 6 _ rfl
  have e7 := HW.out.cell 7 _ rfl
  have z := HW.out.frozen
  go_upto_region 6 with fail
  have HR := Aside0.mk (Only.of_below (g := g) (Below.refl W.heap.size W))
  go_region
  all_goals
    first
      | (obtain ⟨Z, hZ⟩ : ∃ Z, ((((((((W.setCell ⟨g, 4, none⟩ (.int .i64 64)).setCell ⟨g, 5, none⟩ (.int .i64 128)).setCell ⟨g, 6, none⟩ (.int .i64 0)).setCell ⟨g, 7, none⟩ (.slice A1 n1 c1)).setCell ⟨g, 0, none⟩ (.int .i64 0)).setCell ⟨g, 1, none⟩ (.int .i64 64)).setCell ⟨g, 2, none⟩ (.int .i64 0)).setCell ⟨g, 3, none⟩ (.slice A2 n2 c2)).drew = Z := ⟨_, rfl⟩; rw [hZ]; have hbg : Begins Z g (twoBlocks 0 (.slice A2 n2 c2) 64 (.slice A1 n1 c1)) := (by rw [← hZ]; exact (((((((((HW.out.put 4 (.int .i64 64)).put 5 (.int .i64 128)).put 6 (.int .i64 0)).put 7 (.slice A1 n1 c1)).put 0 (.int .i64 0)).put 1 (.int .i64 64)).put 2 (.int .i64 0)).put 3 (.slice A2 n2 c2))).drew.as rfl); have hon : Only g W Z := (by rw [← hZ]; exact (((((((((HR.out.set 4 (.int .i64 64)).set 5 (.int .i64 128)).set 6 (.int .i64 0)).set 7 (.slice A1 n1 c1)).set 0 (.int .i64 0)).set 1 (.int .i64 64)).set 2 (.int .i64 0)).set 3 (.slice A2 n2 c2))).drew); clear hZ)
      | (obtain ⟨Z, hZ⟩ : ∃ Z, ((((((((W.setCell ⟨g, 0, none⟩ (.int .i64 0)).setCell ⟨g, 1, none⟩ (.int .i64 64)).setCell ⟨g, 2, none⟩ (.int .i64 0)).setCell ⟨g, 3, none⟩ (.slice A2 n2 c2)).setCell ⟨g, 4, none⟩ (.int .i64 64)).setCell ⟨g, 5, none⟩ (.int .i64 128)).setCell ⟨g, 6, none⟩ (.int .i64 0)).setCell ⟨g, 7, none⟩ (.slice A1 n1 c1)).drew = Z := ⟨_, rfl⟩; rw [hZ]; have hbg : Begins Z g (twoBlocks 0 (.slice A2 n2 c2) 64 (.slice A1 n1 c1)) := (by rw [← hZ]; exact (((((((((HW.out.put 0 (.int .i64 0)).put 1 (.int .i64 64)).put 2 (.int .i64 0)).put 3 (.slice A2 n2 c2)).put 4 (.int .i64 64)).put 5 (.int .i64 128)).put 6 (.int .i64 0)).put 7 (.slice A1 n1 c1))).drew.as rfl); have hon : Only g W Z := (by rw [← hZ]; exact (((((((((HR.out.set 0 (.int .i64 0)).set 1 (.int .i64 64)).set 2 (.int .i64 0)).set 3 (.slice A2 n2 c2)).set 4 (.int .i64 64)).set 5 (.int .i64 128)).set 6 (.int .i64 0)).set 7 (.slice A1 n1 c1))).drew); clear hZ)
    have HBG := Aside0.mk hbg
    have HON := Aside0.mk (HO.out.trans hon)
    clear hbg hon e0 e1 e2 e3 e4 e5 e6 e7 z HW HO HR H
    go_wp2_with fail
    rw [rounds_succ]
    go_upto_region 4 with fail
    obtain ⟨T2, f2, kb, kn, ⟨x2, hx⟩⟩ := family Z
    have KB := Aside0.mk kb
    have KX := Aside0.mk hx
    haveI : Nonempty T2 := ⟨x2⟩
    clear kb kn hx
    refine wp_region_family f2 (by kernel_rfl) (by kernel_rfl) ⟨x2, KX.out⟩ ?_
    repeat (first | go_big_quiet_step ((fail)) | quiet_step (fail))
    refine wpQuiet_nil ?_
    rintro w' ⟨y2, rfl⟩
    go_wp2_with fail
    rw [rounds_succ]
    go_wp2
    go_end0
    exact ⟨rfl, HBG.out.keep ((KB.out y2).block _ HBG.out.lt), HON.out.trans (Only.of_below (KB.out y2))⟩

end Go.Proofs.Ytieoilnkfnlbaaa
