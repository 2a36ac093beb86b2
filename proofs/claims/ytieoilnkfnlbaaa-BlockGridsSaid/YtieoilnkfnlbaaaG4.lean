/- The key of one label, read again. -/
import Derived.Test.YtieoilnkfnlbaaaG3
namespace Go.Proofs.Ytieoilnkfnlbaaa
open Go.RowKit Go.Proofs.YtieoilnkfnlbaaaW.PrintWords

set_option maxHeartbeats 1000000 in
set_option maxRecDepth 100000 in
theorem name_a (w : World) : Calls Try.prog 76 #[.string { data := #[97] }] w fun e w' => e = .returned (.bool true) ∧ w' = w := by
  go_enter Try.func76, Try.ntmps76
  go_wp2_with fail
  refine wp_loop_rounds 2 ?_
  rw [rounds_succ]
  go_wp2_with fail
  rw [rounds_succ]
  go_wp2
  go_ret
  exact ⟨rfl, rfl⟩

set_option maxHeartbeats 1000000 in
set_option maxRecDepth 100000 in
theorem value_x (w : World) : Calls Try.prog 77 #[.string { data := #[120] }] w fun e w' => e = .returned (.bool true) ∧ w' = w := by
  go_enter Try.func77, Try.ntmps77
  go_wp2
  go_ret
  exact ⟨rfl, rfl⟩

set_option maxHeartbeats 2000000 in
set_option maxRecDepth 100000 in
theorem labels_1 (w : World) (g c : Nat) (h0 : w.cell? ⟨g, 0, none⟩ = some (.string { data := #[97] })) (h1 : w.cell? ⟨g, 1, none⟩ = some (.string { data := #[120] })) :
    Calls Try.prog 45 #[.slice (some ⟨g, 0, none⟩) 1 c] w fun e w' => e = .returned (.int .i64 0) ∧ Below w.heap.size w w' := by
  have hW : ∃ W, W = w.alloc (.cells #[.string { data := #[97] }, .string { data := #[120] }] 53) := ⟨_, rfl⟩
  obtain ⟨W, hW⟩ := hW
  have hb : Below w.heap.size w W := hW ▸ (Below.refl _ _).alloc (Nat.le_refl _) _
  have hn : W.heap[w.heap.size]? = some (.cells #[.string { data := #[97] }, .string { data := #[120] }] 53 (0, 0)) := hW ▸ heap_alloc_new w _
  have o0 : W.cell? ⟨w.heap.size, 0, none⟩ = some (.string { data := #[97] }) := blk_cell hn 0
  have o1 : W.cell? ⟨w.heap.size, 1, none⟩ = some (.string { data := #[120] }) := blk_cell hn 1
  have HB := Aside0.mk hb
  clear hb hn
  go_enter Try.func45, Try.ntmps45
  go_wp2_with fail
  refine wp_loop_rounds 2 ?_
  rw [rounds_succ]
  go_upto_region 6 with fail
  rw [← hW]
  clear hW h0 h1
  obtain ⟨T, fw, kb, kn, ⟨x0, hx0⟩⟩ := family W
  have e0 : ∀ x, (fw x).cell? ⟨w.heap.size, 0, none⟩ = some (.string { data := #[97] }) := fun x => pw_cell_below (kb x) o0
  have e1 : ∀ x, (fw x).cell? ⟨w.heap.size, 1, none⟩ = some (.string { data := #[120] }) := fun x => pw_cell_below (kb x) o1
  have KN := Aside0.mk (show ∀ x, Calls Try.prog 76 #[.string { data := #[97] }] (fw x) (fun e w' => e = .returned (.bool true) ∧ ∃ y, w' = fw y) from fun x => (name_a (fw x)).mono fun e w' ⟨he, hw⟩ => ⟨he, kn x w' (hw ▸ Below.refl _ _)⟩)
  have KV := Aside0.mk (show ∀ x, Calls Try.prog 77 #[.string { data := #[120] }] (fw x) (fun e w' => e = .returned (.bool true) ∧ ∃ y, w' = fw y) from fun x => (value_x (fw x)).mono fun e w' ⟨he, hw⟩ => ⟨he, kn x w' (hw ▸ Below.refl _ _)⟩)
  have KB := Aside0.mk kb
  have KX := Aside0.mk hx0
  haveI : Nonempty T := ⟨x0⟩
  clear kb kn hx0 o0 o1
  refine wp_region_family fw (by kernel_rfl) (by kernel_rfl) ⟨x0, KX.out⟩ ?_
  repeat (first | go_big_quiet_step ((first | (go_at_call 76; exact KN.out _) | (go_at_call 77; exact KV.out _))) | quiet_step (fail))
  refine wpQuiet_nil ?_
  rintro w' ⟨x, rfl⟩
  go_wp2_with fail
  rw [rounds_succ]
  go_wp2
  go_ret
  exact ⟨rfl, HB.out.trans ((KB.out x).mono HB.out.size)⟩

end Go.Proofs.Ytieoilnkfnlbaaa
