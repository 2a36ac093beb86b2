/- The key of one label, read. -/
import Derived.Test.YtieoilnkfnlbaaaG4
namespace Go.Proofs.Ytieoilnkfnlbaaa
open Go.RowKit Go.Proofs.YtieoilnkfnlbaaaW.PrintWords

theorem info9 : (Try.prog.info? 9).map (fun i => (i.zero, i.size, i.bytes)) = some (some (.string ⟨#[]⟩), 1, 16) := by kernel_rfl

theorem info53 : (Try.prog.info? 53).map (fun i => (i.zero, i.size, i.bytes)) = some (some (.agg #[.string ⟨#[]⟩, .string ⟨#[]⟩]), 2, 32) := by kernel_rfl

set_option maxHeartbeats 4000000 in
set_option maxRecDepth 100000 in
theorem from_key (w : World) : Calls Try.prog 29 #[.string keyB] w fun e w' => ∃ v, e = .returned (.tuple #[v, .int .i64 0]) ∧ Below w.heap.size w w' := by
  have k0 : (keyB[0]'(by decide)).toNat = 1 := rfl
  have iw : IntKind.i64.wrap 1 = 1 := by kernel_rfl
  have w1 : wrap64 1 = 1 := by kernel_rfl
  have w2 : wrap64 2 = 2 := by kernel_rfl
  have x1 : keyB.extract 1 2 = { data := #[97] } := by decide
  have x2 : keyB.extract 2 4 = { data := #[1, 120] } := by decide
  have j0 : (({ data := #[1, 120] } : ByteArray)[0]'(by decide)).toNat = 1 := rfl
  have x3 : ({ data := #[1, 120] } : ByteArray).extract 1 2 = { data := #[120] } := by decide
  have x4 : ({ data := #[1, 120] } : ByteArray).extract 2 2 = { data := #[] } := by decide
  go_enter Try.func29, Try.ntmps29
  go_wp2_with fail
  refine wp_loop_rounds 3 ?_
  rw [rounds_succ]
  go_wp2_with (first
    | (at_builtin; refine print_append_of (w0 := w) Value.string w.heap.size rfl (.tmp 19) (.tmp 24) 83 9 (.string ⟨#[]⟩) 16 rfl Try.underlying83 info9 rfl (by decide) _ ([] : List ByteArray) _ rfl rfl rfl (own_nil _ _ _ _) (Below.refl _ _) (Nat.le_refl _) (by decide) ?_; intro v1 w3 hown3 hb3 hg3 hat3; have HO3 := Aside0.mk hown3; have HB3 := Aside0.mk hb3; clear hown3 hb3 hg3 hat3)
    | go_in)
  rw [rounds_succ]
  go_wp2_with (first
    | (at_builtin; refine print_append_of (w0 := w) Value.string w.heap.size rfl (.tmp 19) (.tmp 24) 83 9 (.string ⟨#[]⟩) 16 rfl Try.underlying83 info9 rfl (by decide) _ ([] ++ [({ data := #[97] } : ByteArray)]) _ rfl rfl rfl HO3.out HB3.out HB3.out.size (by decide) ?_; intro v2 w4 hown4 hb4 hg4 hat4; have HO4 := Aside0.mk hown4; have HB4 := Aside0.mk hb4; clear hown4 hb4 hg4 hat4)
    | go_in)
  rw [rounds_succ]
  obtain ⟨A4, c4, rfl⟩ := own_slice HO4.out
  obtain ⟨A5, c5, e5, hl5, hr5⟩ := own_reads_of_le (d := ByteArray.empty) HO4.out
  obtain ⟨rfl, -, rfl⟩ : A4 = A5 ∧ True ∧ c4 = c5 := by injection e5 with e1 e2 e3; exact ⟨e1, trivial, e3⟩
  obtain ⟨ad, rfl, hc0⟩ := hr5.at_ 0 (by decide) (by decide)
  obtain ⟨ad', e6, hc1⟩ := hr5.at_ 1 (by decide) (by decide)
  obtain rfl : ad = ad' := by injection e6
  have ea : ad.add 0 = ad := by unfold Addr.add; simp
  have d0 : w4.cell? ad = some (.string { data := #[97] }) := (congrArg w4.cell? ea.symm).trans hc0
  have eb : ad.add 1 = ⟨ad.block, ad.off + 1, none⟩ := by unfold Addr.add; simp
  have d1 : w4.cell? ⟨ad.block, ad.off + 1, none⟩ = some (.string { data := #[120] }) := (congrArg w4.cell? eb.symm).trans hc1
  have HB := Aside0.mk HB4.out
  clear e5 hl5 hr5 e6 hc0 hc1 ea eb k0 x1 x2 j0 x3 x4 HO3 HB3 HB4
  go_wp2_with fail
  refine wp_loop_rounds 2 ?_
  rw [rounds_succ]
  go_upto_region 14 with fail
  have s1 : w4.drew.cell? ad = some (.string { data := #[97] }) ∧ w4.drew.cell? ⟨ad.block, ad.off + 1, none⟩ = some (.string { data := #[120] }) := ⟨d0, d1⟩
  have hba : Below w4.heap.size w4 (w4.drew.alloc (.cells #[.string { data := #[97] }, .string { data := #[120] }] 53)) := (Below.refl w4.heap.size w4).drew.alloc (Nat.le_refl _) _
  have s2 : (w4.drew.alloc (.cells #[.string { data := #[97] }, .string { data := #[120] }] 53)).cell? ad = some (.string { data := #[97] }) ∧ (w4.drew.alloc (.cells #[.string { data := #[97] }, .string { data := #[120] }] 53)).cell? ⟨ad.block, ad.off + 1, none⟩ = some (.string { data := #[120] }) := ⟨pw_cell_below hba d0, pw_cell_below hba d1⟩
  have HS := Aside0.mk (And.intro d0 d1)
  have hbd : Below w.heap.size w w4.drew := HB.out.drew
  have hsd : w.heap.size ≤ w4.drew.heap.size := hbd.size
  clear d0 d1 hba
  go_region_held3 (fun W' => W'.cell? ad = some (.string { data := #[97] }) ∧ W'.cell? ⟨ad.block, ad.off + 1, none⟩ = some (.string { data := #[120] })) (first | exact s1 | exact s2 | exact s3)
    (first
      | (refine step_append_cells (w0 := w) w.heap.size (by rfl) (.tmp 40) (.tmp 51) 54 53 (.agg #[.string ⟨#[]⟩, .string ⟨#[]⟩]) 2 32 rfl Try.underlying54 info53 rfl (by decide) (by decide) (.slice none 0 0) 0 [] [.string { data := #[97] }, .string { data := #[120] }] rfl rfl rfl (by decide) (own_nil _ _ _ _) hbd hsd (by decide) ?_
         intro v5 w5 hown5 hb5 hg5 hat5
         have hb45 : Below w4.heap.size w4 w5 := ⟨hg5.os, hg5.tape, hg5.output, hg5.size, fun k hk => hg5.block k hk (by simp [Value.ownBlock])⟩
         have s3 : w5.cell? ad = some (.string { data := #[97] }) ∧ w5.cell? ⟨ad.block, ad.off + 1, none⟩ = some (.string { data := #[120] }) := ⟨pw_cell_below hb45 HS.out.1, pw_cell_below hb45 HS.out.2⟩
         have HO5 := Aside0.mk hown5
         have HB5 := Aside0.mk hb5
         clear hown5 hb5 hg5 hat5 hb45))
  obtain ⟨g5, cap5, rfl, _, _⟩ := HO5.out.form (by decide)
  have k0 := HO5.out.cells (g := g5) rfl 0 (.string { data := #[97] }) rfl
  have k1 := HO5.out.cells (g := g5) rfl 1 (.string { data := #[120] }) rfl
  rw [add_plain] at k0 k1
  have HK := Aside0.mk (And.intro k0 k1)
  clear k0 k1 s1 s2 s3
  go_wp2_with fail
  rw [rounds_succ]
  go_wp2_with fail
  refine (labels_1 w5 g5 cap5 HK.out.1 HK.out.2).mono ?_
  rintro e w6 ⟨rfl, hb6⟩
  have HB6 := Aside0.mk (HB5.out.trans (hb6.mono HB5.out.size))
  clear hb6
  go_wp2
  go_ret2
  exact ⟨_, rfl, HB6.out⟩

end Go.Proofs.Ytieoilnkfnlbaaa
