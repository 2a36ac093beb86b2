/- The key of one label. -/
import Derived.Test.YtieoilnkfnlbaaaG1
namespace Go.Proofs.Ytieoilnkfnlbaaa
open Go.RowKit Go.Proofs.YtieoilnkfnlbaaaW.PrintWords

theorem info5 : (Try.prog.info? 5).map (fun i => (i.zero, i.size, i.bytes)) = some (some (.int .u8 0), 1, 1) := by kernel_rfl

theorem idx0 (w : World) (a b : Value) : (Instr.index 80 (.agg #[a, b]) (.int .i64 0)).run Try.prog w = .ok a w := by kernel_rfl
theorem idx1 (w : World) (a b : Value) : (Instr.index 80 (.agg #[a, b]) (.int .i64 1)).run Try.prog w = .ok b w := by kernel_rfl

abbrev keyB : ByteArray := { data := #[1, 97, 1, 120] }

set_option maxHeartbeats 2000000 in
set_option maxRecDepth 100000 in
theorem key_1 (w : World) (g : Nat) (h0 : w.cell? ⟨g, 0, none⟩ = some (.string { data := #[97] })) (h1 : w.cell? ⟨g, 1, none⟩ = some (.string { data := #[120] })) :
    Calls Try.prog 15 #[.slice (some ⟨g, 0, none⟩) 1 1] w fun e w' => e = .returned (.string keyB) ∧ Below w.heap.size w w' := by
  have i0 := idx0
  have i1 := idx1
  go_enter Try.func15, Try.ntmps15
  go_wp2_with fail
  refine wp_loop_rounds 2 ?_
  rw [rounds_succ]
  go_wp2_with fail
  refine wp_loop_rounds 3 ?_
  rw [rounds_succ]
  have hz : ∃ w2, w2 = w.alloc (.cells #[.string { data := #[97] }, .string { data := #[120] }] 53) := ⟨_, rfl⟩
  obtain ⟨w2, hw2⟩ := hz
  rw [← hw2]
  have hb2 : Below w.heap.size w w2 := hw2 ▸ (Below.refl _ _).alloc (Nat.le_refl _) _
  clear hw2
  have hs2 := hb2.size
  go_wp2_with (first
    | (at_builtin; refine print_append_num (w0 := w) w.heap.size rfl (.tmp 22) (.tmp 26) 79 5 .u8 1 rfl Try.underlying79 info5 (by decide) _ ([] : List Int) 1 rfl rfl (own_nil _ _ _ _) hb2 hb2.size (by decide) ?_; intro v1 w3 hown3 hb3 hg3 hat3; have HOa3 := Aside0.mk hown3; have HBa3 := Aside0.mk hb3; clear hown3 hb3 hg3 hat3)
    | (at_builtin; refine print_append_str (w0 := w) w.heap.size rfl (.tmp 27) (.tmp 28) 79 9 5 rfl Try.underlying79 Try.underlying9 info5 _ (([] : List Int) ++ [1]) { data := #[97] } rfl rfl HOa3.out HBa3.out HBa3.out.size (by decide) ?_; intro v2 w4 hown4 hb4 hg4; have HOa4 := Aside0.mk hown4; have HBa4 := Aside0.mk hb4; clear hown4 hb4 hg4)
    | go_in)
  rw [rounds_succ]
  clear hb2 hs2
  go_wp2_with (first
    | (at_builtin; refine print_append_num (w0 := w) w.heap.size rfl (.tmp 22) (.tmp 26) 79 5 .u8 1 rfl Try.underlying79 info5 (by decide) _ ([] ++ [1] ++ bytesOf { data := #[97] }) 1 rfl rfl HOa4.out HBa4.out HBa4.out.size (by decide) ?_; intro v1 w3 hown3 hb3 hg3 hat3; have HOb3 := Aside0.mk hown3; have HBb3 := Aside0.mk hb3; clear hown3 hb3 hg3 hat3)
    | (at_builtin; refine print_append_str (w0 := w) w.heap.size rfl (.tmp 27) (.tmp 28) 79 9 5 rfl Try.underlying79 Try.underlying9 info5 _ (([] ++ [1] ++ bytesOf { data := #[97] }) ++ [1]) { data := #[120] } rfl rfl HOb3.out HBb3.out HBb3.out.size (by decide) ?_; intro v2 w4 hown4 hb4 hg4; have HOb4 := Aside0.mk hown4; have HBb4 := Aside0.mk hb4; clear hown4 hb4 hg4)
    | go_in)
  rw [rounds_succ]
  go_wp2_with fail
  rw [rounds_succ]
  have hstr := own_string (P := Try.prog) (src := 79) (dst := 9) (e := 5) Try.underlying79 Try.underlying5 Try.underlying9 HOb4.out
  have est : strOfNums ([] ++ [1] ++ bytesOf { data := #[97] } ++ [1] ++ bytesOf { data := #[120] }) = keyB := by decide
  rw [est] at hstr
  go_wp2
  go_ret
  exact ⟨rfl, HBb4.out⟩

end Go.Proofs.Ytieoilnkfnlbaaa
