/- The example of blocks. -/
import Derived.Test.YtieoilnkfnlbaaaG13
namespace Go.Proofs.Ytieoilnkfnlbaaa
open Go.RowKit Go.Maps Go.Sort Go.WideMaps Go.Proofs.YtieoilnkfnlbaaaW.PrintWords Go.Proofs.Ytieoilnkfnlbaaa.PBlockGrids

theorem MakePost.lower {w w1 w' : World} {e : Ending} (h : MakePost w1 e w') (hb : Below w.heap.size w w1) : MakePost w e w' := by
  obtain ⟨g, c, r0, c0, r1, c1, g0, cc, h1, h2, h3, h4, h5, h6⟩ := h
  exact ⟨g, c, r0, c0, r1, c1, g0, cc, h1, h2, h3, h4, h5, hb.trans (h6.mono hb.size)⟩

theorem MakePost.ret {w w' : World} {e : Ending} (h : MakePost w e w') : ∃ v, e = .returned v := by
  obtain ⟨g, c, r0, c0, r1, c1, g0, cc, h1, _⟩ := h
  exact ⟨_, h1⟩
theorem MakePost.below {w w' : World} {e : Ending} (h : MakePost w e w') : Below w.heap.size w w' := by
  obtain ⟨g, c, r0, c0, r1, c1, g0, cc, _, _, _, _, _, h6⟩ := h
  exact h6

/-- Three samples that were laid. -/
theorem three_of {w : World} {g : Nat} {fr : Nat × Nat} (h : w.heap[g]? = some (.cells (sampleCells 0 ++ sampleCells 63 ++ sampleCells 64).toArray 56 fr)) : ThreeAt w g := by
  intro i hi j v hj
  have hjl : j < 9 := by
    have := (List.getElem?_eq_some_iff.1 hj).1
    simpa using this
  rw [cell_of_row w g (i * 9 + j) _ 56 fr h]
  have : i = 0 ∨ i = 1 ∨ i = 2 := by omega
  rcases this with rfl | rfl | rfl
  all_goals
    rw [← hj]
    match j, hjl with
    | 0, _ | 1, _ | 2, _ | 3, _ | 4, _ | 5, _ | 6, _ | 7, _ | 8, _ => rfl

set_option maxHeartbeats 8000000 in
set_option maxRecDepth 100000 in
theorem awake_any (w : World) : Calls Try.prog 6 #[] w fun e w' => e = .returned (.bool true) ∧ Below w.heap.size w w' := by
  go_enter Try.func6, Try.ntmps6
  go_upto_region 2 with fail
  have hW : ∃ W, W = w.alloc (.cells #[.int .i64 0, .int .i64 0, .int .i64 (-524288), .int .u64 0, .int .u64 0, .int .i64 0, .slice none 0 0, .slice none 0 0] 50) := ⟨_, rfl⟩
  obtain ⟨W, hW⟩ := hW
  rw [← hW]
  have hb : Below w.heap.size w W := hW ▸ (Below.refl _ _).alloc (Nat.le_refl _) _
  have hn : W.heap[w.heap.size]? = some (.cells #[.int .i64 0, .int .i64 0, .int .i64 (-524288), .int .u64 0, .int .u64 0, .int .i64 0, .slice none 0 0, .slice none 0 0] 50 (0, 0)) := hW ▸ heap_alloc_new w _
  have HB := Aside0.mk hb
  have HN := Aside0.mk hn
  clear hb hn hW
  go_cut [2] (fun s2 wx => MakePost W (.returned s2) wx)
  case first =>
    refine wp_region_noPanic ?_
    refine wp_region_held_drew (S := fun W' => Below W.heap.size W W') (by kernel_rfl) ((Below.refl _ _).drew) (fun hHeld => ?_)
    refine take_l (i := 0) (v := ?v0n401) rfl (by kernel_rfl) (by kernel_rfl) (by kernel_rfl) (fun _ _ _ h => h) (Or.inl ⟨by rfl, ?hy0n401⟩) (by assumption) ?rest0n401
    case hy0n401 => (intro w hSw; (try dsimp only at hSw); go_simp; try with_reducible rfl)
    (try simp only [Act.put, List.setIfInBounds_toArray, List.set_cons_zero, List.set_cons_succ])
    refine take_l (i := 3) (v := ?v3n402) rfl (by kernel_rfl) (by kernel_rfl) (by kernel_rfl) (fun _ _ _ h => h) (Or.inl ⟨by rfl, ?hy3n402⟩) (by assumption) ?rest3n402
    case hy3n402 => (intro w' hSw; (try dsimp only at hSw); have e0 : w'.cell? ⟨w.heap.size, 0, none⟩ = some (.int .i64 0) := pw_cell_below hSw (blk_cell HN.out 0); have e1 : w'.cell? ⟨w.heap.size, 1, none⟩ = some (.int .i64 0) := pw_cell_below hSw (blk_cell HN.out 1); have e2 : w'.cell? ⟨w.heap.size, 2, none⟩ = some (.int .i64 (-524288)) := pw_cell_below hSw (blk_cell HN.out 2); have e3 : w'.cell? ⟨w.heap.size, 3, none⟩ = some (.int .u64 0) := pw_cell_below hSw (blk_cell HN.out 3); have e4 : w'.cell? ⟨w.heap.size, 4, none⟩ = some (.int .u64 0) := pw_cell_below hSw (blk_cell HN.out 4); have e5 : w'.cell? ⟨w.heap.size, 5, none⟩ = some (.int .i64 0) := pw_cell_below hSw (blk_cell HN.out 5); have e6 : w'.cell? ⟨w.heap.size, 6, none⟩ = some (.slice none 0 0) := pw_cell_below hSw (blk_cell HN.out 6); have e7 : w'.cell? ⟨w.heap.size, 7, none⟩ = some (.slice none 0 0) := pw_cell_below hSw (blk_cell HN.out 7); clear hSw; go_simp; try with_reducible rfl)
    (try simp only [Act.put, List.setIfInBounds_toArray, List.set_cons_zero, List.set_cons_succ])
    refine take_l (i := 4) (v := ?v4n403) rfl (by kernel_rfl) (by kernel_rfl) (by kernel_rfl) (fun _ _ _ h => h) (Or.inl ⟨by rfl, ?hy4n403⟩) (by assumption) ?rest4n403
    case hy4n403 => (intro w hSw; (try dsimp only at hSw); go_simp; try with_reducible rfl)
    (try simp only [Act.put, List.setIfInBounds_toArray, List.set_cons_zero, List.set_cons_succ])
    refine take_l (i := 5) (v := ?v5n404) rfl (by kernel_rfl) (by kernel_rfl) (by kernel_rfl) (fun _ _ _ h => h) (Or.inl ⟨by rfl, ?hy5n404⟩) (by assumption) ?rest5n404
    case hy5n404 => (intro w' hSw; (try dsimp only at hSw); have e0 : w'.cell? ⟨w.heap.size, 0, none⟩ = some (.int .i64 0) := pw_cell_below hSw (blk_cell HN.out 0); have e1 : w'.cell? ⟨w.heap.size, 1, none⟩ = some (.int .i64 0) := pw_cell_below hSw (blk_cell HN.out 1); have e2 : w'.cell? ⟨w.heap.size, 2, none⟩ = some (.int .i64 (-524288)) := pw_cell_below hSw (blk_cell HN.out 2); have e3 : w'.cell? ⟨w.heap.size, 3, none⟩ = some (.int .u64 0) := pw_cell_below hSw (blk_cell HN.out 3); have e4 : w'.cell? ⟨w.heap.size, 4, none⟩ = some (.int .u64 0) := pw_cell_below hSw (blk_cell HN.out 4); have e5 : w'.cell? ⟨w.heap.size, 5, none⟩ = some (.int .i64 0) := pw_cell_below hSw (blk_cell HN.out 5); have e6 : w'.cell? ⟨w.heap.size, 6, none⟩ = some (.slice none 0 0) := pw_cell_below hSw (blk_cell HN.out 6); have e7 : w'.cell? ⟨w.heap.size, 7, none⟩ = some (.slice none 0 0) := pw_cell_below hSw (blk_cell HN.out 7); clear hSw; go_simp; try with_reducible rfl)
    (try simp only [Act.put, List.setIfInBounds_toArray, List.set_cons_zero, List.set_cons_succ])
    refine take_l (i := 6) (v := ?v6n405) rfl (by kernel_rfl) (by kernel_rfl) (by kernel_rfl) (fun _ _ _ h => h) (Or.inl ⟨by rfl, ?hy6n405⟩) (by assumption) ?rest6n405
    case hy6n405 => (intro w hSw; (try dsimp only at hSw); go_simp; try with_reducible rfl)
    (try simp only [Act.put, List.setIfInBounds_toArray, List.set_cons_zero, List.set_cons_succ])
    refine take_l (i := 7) (v := ?v7n406) rfl (by kernel_rfl) (by kernel_rfl) (by kernel_rfl) (fun _ _ _ h => h) (Or.inl ⟨by rfl, ?hy7n406⟩) (by assumption) ?rest7n406
    case hy7n406 => (intro w' hSw; (try dsimp only at hSw); have e0 : w'.cell? ⟨w.heap.size, 0, none⟩ = some (.int .i64 0) := pw_cell_below hSw (blk_cell HN.out 0); have e1 : w'.cell? ⟨w.heap.size, 1, none⟩ = some (.int .i64 0) := pw_cell_below hSw (blk_cell HN.out 1); have e2 : w'.cell? ⟨w.heap.size, 2, none⟩ = some (.int .i64 (-524288)) := pw_cell_below hSw (blk_cell HN.out 2); have e3 : w'.cell? ⟨w.heap.size, 3, none⟩ = some (.int .u64 0) := pw_cell_below hSw (blk_cell HN.out 3); have e4 : w'.cell? ⟨w.heap.size, 4, none⟩ = some (.int .u64 0) := pw_cell_below hSw (blk_cell HN.out 4); have e5 : w'.cell? ⟨w.heap.size, 5, none⟩ = some (.int .i64 0) := pw_cell_below hSw (blk_cell HN.out 5); have e6 : w'.cell? ⟨w.heap.size, 6, none⟩ = some (.slice none 0 0) := pw_cell_below hSw (blk_cell HN.out 6); have e7 : w'.cell? ⟨w.heap.size, 7, none⟩ = some (.slice none 0 0) := pw_cell_below hSw (blk_cell HN.out 7); clear hSw; go_simp; try with_reducible rfl)
    (try simp only [Act.put, List.setIfInBounds_toArray, List.set_cons_zero, List.set_cons_succ])
    refine take_l (i := 8) (v := ?v8n407) rfl (by kernel_rfl) (by kernel_rfl) (by kernel_rfl) (fun _ _ _ h => h) (Or.inl ⟨by rfl, ?hy8n407⟩) (by assumption) ?rest8n407
    case hy8n407 => (intro w hSw; (try dsimp only at hSw); go_simp; try with_reducible rfl)
    (try simp only [Act.put, List.setIfInBounds_toArray, List.set_cons_zero, List.set_cons_succ])
    refine wpAnyH_ready (rs := [1, 9]) (by kernel_rfl) (by simp) ?_
    refine cons_l rfl (fun K hK => ?_) (cons_l rfl (fun K hK => ?_) AllReadyH.nil)
    · go_simp
      refine hK.out _ _ (((Below.refl W.heap.size W).alloc (Nat.le_refl _) _).drew) (fun hHeld => ?_)
      clear hK K
      (try simp only [Act.put, List.setIfInBounds_toArray, List.set_cons_zero, List.set_cons_succ])
      have hbx : Below W.heap.size W ((W.alloc (.cells #[.string { data := #[97] }, .string { data := #[120] }] 53)).drew) := ((Below.refl W.heap.size W).alloc (Nat.le_refl _) _).drew
      have hnx : ((W.alloc (.cells #[.string { data := #[97] }, .string { data := #[120] }] 53)).drew).heap[W.heap.size]? = some (.cells #[.string { data := #[97] }, .string { data := #[120] }] 53 (0, 0)) := heap_alloc_new W _
      obtain ⟨V1, hV1⟩ : ∃ V, V = (W.alloc (.cells #[.string { data := #[97] }, .string { data := #[120] }] 53)).drew := ⟨_, rfl⟩
      rw [← hV1] at hHeld hbx hnx ⊢
      clear hV1
      have HBV1 : Aside0 (Below W.heap.size W V1) := ⟨hHeld⟩
      have HNL : Aside0 (V1.heap[W.heap.size]? = some (.cells #[.string { data := #[97] }, .string { data := #[120] }] 53 (0, 0))) := ⟨hnx⟩
      clear hbx hnx
      refine wpAnyH_ready (rs := [2, 9]) (by kernel_rfl) (by simp) ?_
      refine cons_l rfl (fun K hK => ?_) (cons_l rfl (fun K hK => ?_) AllReadyH.nil)
      · go_simp
        go_at_call 15
        refine (key_1 V1 (W.heap.size) (blk_cell HNL.out 0) (blk_cell HNL.out 1)).mono ?_
        rintro e V2 ⟨rfl, hbx⟩
        refine hK.out _ _ (HBV1.out.trans (hbx.mono HBV1.out.size)) (fun hHeld => ?_)
        clear hK K
        (try simp only [Act.put, List.setIfInBounds_toArray, List.set_cons_zero, List.set_cons_succ])
        have HBV2 : Aside0 (Below W.heap.size W V2) := ⟨hHeld⟩
        have HNL : Aside0 (V2.heap[W.heap.size]? = some (.cells #[.string { data := #[97] }, .string { data := #[120] }] 53 (0, 0))) := ⟨(hbx.block _ (blk_lt HNL.out)).trans HNL.out⟩
        clear hbx
        refine wpAnyH_ready (rs := [9]) (by kernel_rfl) (by simp) ?_
        refine cons_l rfl (fun K hK => ?_) AllReadyH.nil
        go_simp
        refine hK.out _ _ ((HBV2.out.alloc HBV2.out.size _)) (fun hHeld => ?_)
        clear hK K
        (try simp only [Act.put, List.setIfInBounds_toArray, List.set_cons_zero, List.set_cons_succ])
        have hbx : Below V2.heap.size V2 (V2.alloc (.cells #[.int .i64 0, .int .i64 0, .int .i64 0, .int .i64 (-524288), .int .u64 0, .int .u64 0, .int .i64 0, .slice none 0 0, .slice none 0 0, .int .i64 63, .int .i64 0, .int .i64 0, .int .i64 (-524288), .int .u64 0, .int .u64 0, .int .i64 0, .slice none 0 0, .slice none 0 0, .int .i64 64, .int .i64 0, .int .i64 0, .int .i64 (-524288), .int .u64 0, .int .u64 0, .int .i64 0, .slice none 0 0, .slice none 0 0] 56)) := (Below.refl V2.heap.size V2).alloc (Nat.le_refl _) _
        have hnx : (V2.alloc (.cells #[.int .i64 0, .int .i64 0, .int .i64 0, .int .i64 (-524288), .int .u64 0, .int .u64 0, .int .i64 0, .slice none 0 0, .slice none 0 0, .int .i64 63, .int .i64 0, .int .i64 0, .int .i64 (-524288), .int .u64 0, .int .u64 0, .int .i64 0, .slice none 0 0, .slice none 0 0, .int .i64 64, .int .i64 0, .int .i64 0, .int .i64 (-524288), .int .u64 0, .int .u64 0, .int .i64 0, .slice none 0 0, .slice none 0 0] 56)).heap[V2.heap.size]? = some (.cells #[.int .i64 0, .int .i64 0, .int .i64 0, .int .i64 (-524288), .int .u64 0, .int .u64 0, .int .i64 0, .slice none 0 0, .slice none 0 0, .int .i64 63, .int .i64 0, .int .i64 0, .int .i64 (-524288), .int .u64 0, .int .u64 0, .int .i64 0, .slice none 0 0, .slice none 0 0, .int .i64 64, .int .i64 0, .int .i64 0, .int .i64 (-524288), .int .u64 0, .int .u64 0, .int .i64 0, .slice none 0 0, .slice none 0 0] 56 (0, 0)) := heap_alloc_new V2 _
        obtain ⟨V3, hV3⟩ : ∃ V, V = V2.alloc (.cells #[.int .i64 0, .int .i64 0, .int .i64 0, .int .i64 (-524288), .int .u64 0, .int .u64 0, .int .i64 0, .slice none 0 0, .slice none 0 0, .int .i64 63, .int .i64 0, .int .i64 0, .int .i64 (-524288), .int .u64 0, .int .u64 0, .int .i64 0, .slice none 0 0, .slice none 0 0, .int .i64 64, .int .i64 0, .int .i64 0, .int .i64 (-524288), .int .u64 0, .int .u64 0, .int .i64 0, .slice none 0 0, .slice none 0 0] 56) := ⟨_, rfl⟩
        rw [← hV3] at hHeld hbx hnx ⊢
        clear hV3
        have HBV3 : Aside0 (Below W.heap.size W V3) := ⟨hHeld⟩
        have HNL : Aside0 (V3.heap[W.heap.size]? = some (.cells #[.string { data := #[97] }, .string { data := #[120] }] 53 (0, 0))) := ⟨(hbx.block _ (blk_lt HNL.out)).trans HNL.out⟩
        have HNS : Aside0 (V3.heap[V2.heap.size]? = some (.cells #[.int .i64 0, .int .i64 0, .int .i64 0, .int .i64 (-524288), .int .u64 0, .int .u64 0, .int .i64 0, .slice none 0 0, .slice none 0 0, .int .i64 63, .int .i64 0, .int .i64 0, .int .i64 (-524288), .int .u64 0, .int .u64 0, .int .i64 0, .slice none 0 0, .slice none 0 0, .int .i64 64, .int .i64 0, .int .i64 0, .int .i64 (-524288), .int .u64 0, .int .u64 0, .int .i64 0, .slice none 0 0, .slice none 0 0] 56 (0, 0))) := ⟨hnx⟩
        clear hbx hnx
        refine take_l (i := 10) (v := ?v10n501) rfl (by kernel_rfl) (by kernel_rfl) (by kernel_rfl) (fun _ _ _ h => h) (Or.inl ⟨by rfl, ?hy10n501⟩) (by assumption) ?rest10n501
        case hy10n501 => (intro w hSw; (try dsimp only at hSw); go_simp; try with_reducible rfl)
        (try simp only [Act.put, List.setIfInBounds_toArray, List.set_cons_zero, List.set_cons_succ])
        refine wpAnyH_ready (rs := [11]) (by kernel_rfl) (by simp) ?_
        refine cons_l rfl (fun K hK => ?_) AllReadyH.nil
        go_simp
        refine hK.out _ _ ((HBV3.out.alloc HBV3.out.size _)) (fun hHeld => ?_)
        clear hK K
        (try simp only [Act.put, List.setIfInBounds_toArray, List.set_cons_zero, List.set_cons_succ])
        have hbx : Below V3.heap.size V3 (V3.alloc (.cells #[.string keyB, .slice (some ⟨V2.heap.size, 0, none⟩) 3 3] 36)) := (Below.refl V3.heap.size V3).alloc (Nat.le_refl _) _
        have hnx : (V3.alloc (.cells #[.string keyB, .slice (some ⟨V2.heap.size, 0, none⟩) 3 3] 36)).heap[V3.heap.size]? = some (.cells #[.string keyB, .slice (some ⟨V2.heap.size, 0, none⟩) 3 3] 36 (0, 0)) := heap_alloc_new V3 _
        obtain ⟨V4, hV4⟩ : ∃ V, V = V3.alloc (.cells #[.string keyB, .slice (some ⟨V2.heap.size, 0, none⟩) 3 3] 36) := ⟨_, rfl⟩
        rw [← hV4] at hHeld hbx hnx ⊢
        clear hV4
        have HBV4 : Aside0 (Below W.heap.size W V4) := ⟨hHeld⟩
        have HNL : Aside0 (V4.heap[W.heap.size]? = some (.cells #[.string { data := #[97] }, .string { data := #[120] }] 53 (0, 0))) := ⟨(hbx.block _ (blk_lt HNL.out)).trans HNL.out⟩
        have HNS : Aside0 (V4.heap[V2.heap.size]? = some (.cells #[.int .i64 0, .int .i64 0, .int .i64 0, .int .i64 (-524288), .int .u64 0, .int .u64 0, .int .i64 0, .slice none 0 0, .slice none 0 0, .int .i64 63, .int .i64 0, .int .i64 0, .int .i64 (-524288), .int .u64 0, .int .u64 0, .int .i64 0, .slice none 0 0, .slice none 0 0, .int .i64 64, .int .i64 0, .int .i64 0, .int .i64 (-524288), .int .u64 0, .int .u64 0, .int .i64 0, .slice none 0 0, .slice none 0 0] 56 (0, 0))) := ⟨(hbx.block _ (blk_lt HNS.out)).trans HNS.out⟩
        have HNR : Aside0 (V4.heap[V3.heap.size]? = some (.cells #[.string keyB, .slice (some ⟨V2.heap.size, 0, none⟩) 3 3] 36 (0, 0))) := ⟨hnx⟩
        clear hbx hnx
        refine wpAnyH_ready (rs := [12]) (by kernel_rfl) (by simp) ?_
        refine cons_l rfl (fun K hK => ?_) AllReadyH.nil
        go_simp
        go_at_call 11
        refine (make_3 V4 (V3.heap.size) (V2.heap.size) 1 3 (blk_cell HNR.out 0) (blk_cell HNR.out 1) (three_of HNS.out)).mono ?_
        intro e VM hmk
        obtain ⟨vm, rfl⟩ := hmk.ret
        have hmw := hmk.lower HBV4.out
        refine hK.out _ _ hmw.below (fun hHeld => ?_)
        clear hK K
        (try simp only [Act.put, List.setIfInBounds_toArray, List.set_cons_zero, List.set_cons_succ])
        have HMW := Aside0.mk hmw
        clear hmw hmk
        refine take_l (i := 13) (v := ?v13n502) rfl (by kernel_rfl) (by kernel_rfl) (by kernel_rfl) (fun _ _ _ h => h) (Or.inl ⟨by rfl, ?hy13n502⟩) (by assumption) ?rest13n502
        case hy13n502 => (intro w hSw; (try dsimp only at hSw); go_simp; try with_reducible rfl)
        (try simp only [Act.put, List.setIfInBounds_toArray, List.set_cons_zero, List.set_cons_succ])
        refine wpAnyH_done (by kernel_rfl) ?_ _
        refine NoPanic.normal ?_
        go_wp2
        go_meet
        exact HMW.out
      · go_simp
        refine hK.out _ _ ((HBV1.out.alloc HBV1.out.size _)) (fun hHeld => ?_)
        clear hK K
        (try simp only [Act.put, List.setIfInBounds_toArray, List.set_cons_zero, List.set_cons_succ])
        have hbx : Below V1.heap.size V1 (V1.alloc (.cells #[.int .i64 0, .int .i64 0, .int .i64 0, .int .i64 (-524288), .int .u64 0, .int .u64 0, .int .i64 0, .slice none 0 0, .slice none 0 0, .int .i64 63, .int .i64 0, .int .i64 0, .int .i64 (-524288), .int .u64 0, .int .u64 0, .int .i64 0, .slice none 0 0, .slice none 0 0, .int .i64 64, .int .i64 0, .int .i64 0, .int .i64 (-524288), .int .u64 0, .int .u64 0, .int .i64 0, .slice none 0 0, .slice none 0 0] 56)) := (Below.refl V1.heap.size V1).alloc (Nat.le_refl _) _
        have hnx : (V1.alloc (.cells #[.int .i64 0, .int .i64 0, .int .i64 0, .int .i64 (-524288), .int .u64 0, .int .u64 0, .int .i64 0, .slice none 0 0, .slice none 0 0, .int .i64 63, .int .i64 0, .int .i64 0, .int .i64 (-524288), .int .u64 0, .int .u64 0, .int .i64 0, .slice none 0 0, .slice none 0 0, .int .i64 64, .int .i64 0, .int .i64 0, .int .i64 (-524288), .int .u64 0, .int .u64 0, .int .i64 0, .slice none 0 0, .slice none 0 0] 56)).heap[V1.heap.size]? = some (.cells #[.int .i64 0, .int .i64 0, .int .i64 0, .int .i64 (-524288), .int .u64 0, .int .u64 0, .int .i64 0, .slice none 0 0, .slice none 0 0, .int .i64 63, .int .i64 0, .int .i64 0, .int .i64 (-524288), .int .u64 0, .int .u64 0, .int .i64 0, .slice none 0 0, .slice none 0 0, .int .i64 64, .int .i64 0, .int .i64 0, .int .i64 (-524288), .int .u64 0, .int .u64 0, .int .i64 0, .slice none 0 0, .slice none 0 0] 56 (0, 0)) := heap_alloc_new V1 _
        obtain ⟨V5, hV5⟩ : ∃ V, V = V1.alloc (.cells #[.int .i64 0, .int .i64 0, .int .i64 0, .int .i64 (-524288), .int .u64 0, .int .u64 0, .int .i64 0, .slice none 0 0, .slice none 0 0, .int .i64 63, .int .i64 0, .int .i64 0, .int .i64 (-524288), .int .u64 0, .int .u64 0, .int .i64 0, .slice none 0 0, .slice none 0 0, .int .i64 64, .int .i64 0, .int .i64 0, .int .i64 (-524288), .int .u64 0, .int .u64 0, .int .i64 0, .slice none 0 0, .slice none 0 0] 56) := ⟨_, rfl⟩
        rw [← hV5] at hHeld hbx hnx ⊢
        clear hV5
        have HBV5 : Aside0 (Below W.heap.size W V5) := ⟨hHeld⟩
        have HNL : Aside0 (V5.heap[W.heap.size]? = some (.cells #[.string { data := #[97] }, .string { data := #[120] }] 53 (0, 0))) := ⟨(hbx.block _ (blk_lt HNL.out)).trans HNL.out⟩
        have HNS : Aside0 (V5.heap[V1.heap.size]? = some (.cells #[.int .i64 0, .int .i64 0, .int .i64 0, .int .i64 (-524288), .int .u64 0, .int .u64 0, .int .i64 0, .slice none 0 0, .slice none 0 0, .int .i64 63, .int .i64 0, .int .i64 0, .int .i64 (-524288), .int .u64 0, .int .u64 0, .int .i64 0, .slice none 0 0, .slice none 0 0, .int .i64 64, .int .i64 0, .int .i64 0, .int .i64 (-524288), .int .u64 0, .int .u64 0, .int .i64 0, .slice none 0 0, .slice none 0 0] 56 (0, 0))) := ⟨hnx⟩
        clear hbx hnx
        refine wpAnyH_ready (rs := [2]) (by kernel_rfl) (by simp) ?_
        refine cons_l rfl (fun K hK => ?_) AllReadyH.nil
        go_simp
        go_at_call 15
        refine (key_1 V5 (W.heap.size) (blk_cell HNL.out 0) (blk_cell HNL.out 1)).mono ?_
        rintro e V6 ⟨rfl, hbx⟩
        refine hK.out _ _ (HBV5.out.trans (hbx.mono HBV5.out.size)) (fun hHeld => ?_)
        clear hK K
        (try simp only [Act.put, List.setIfInBounds_toArray, List.set_cons_zero, List.set_cons_succ])
        have HBV6 : Aside0 (Below W.heap.size W V6) := ⟨hHeld⟩
        have HNL : Aside0 (V6.heap[W.heap.size]? = some (.cells #[.string { data := #[97] }, .string { data := #[120] }] 53 (0, 0))) := ⟨(hbx.block _ (blk_lt HNL.out)).trans HNL.out⟩
        have HNS : Aside0 (V6.heap[V1.heap.size]? = some (.cells #[.int .i64 0, .int .i64 0, .int .i64 0, .int .i64 (-524288), .int .u64 0, .int .u64 0, .int .i64 0, .slice none 0 0, .slice none 0 0, .int .i64 63, .int .i64 0, .int .i64 0, .int .i64 (-524288), .int .u64 0, .int .u64 0, .int .i64 0, .slice none 0 0, .slice none 0 0, .int .i64 64, .int .i64 0, .int .i64 0, .int .i64 (-524288), .int .u64 0, .int .u64 0, .int .i64 0, .slice none 0 0, .slice none 0 0] 56 (0, 0))) := ⟨(hbx.block _ (blk_lt HNS.out)).trans HNS.out⟩
        clear hbx
        refine take_l (i := 10) (v := ?v10n503) rfl (by kernel_rfl) (by kernel_rfl) (by kernel_rfl) (fun _ _ _ h => h) (Or.inl ⟨by rfl, ?hy10n503⟩) (by assumption) ?rest10n503
        case hy10n503 => (intro w hSw; (try dsimp only at hSw); go_simp; try with_reducible rfl)
        (try simp only [Act.put, List.setIfInBounds_toArray, List.set_cons_zero, List.set_cons_succ])
        refine wpAnyH_ready (rs := [11]) (by kernel_rfl) (by simp) ?_
        refine cons_l rfl (fun K hK => ?_) AllReadyH.nil
        go_simp
        refine hK.out _ _ ((HBV6.out.alloc HBV6.out.size _)) (fun hHeld => ?_)
        clear hK K
        (try simp only [Act.put, List.setIfInBounds_toArray, List.set_cons_zero, List.set_cons_succ])
        have hbx : Below V6.heap.size V6 (V6.alloc (.cells #[.string keyB, .slice (some ⟨V1.heap.size, 0, none⟩) 3 3] 36)) := (Below.refl V6.heap.size V6).alloc (Nat.le_refl _) _
        have hnx : (V6.alloc (.cells #[.string keyB, .slice (some ⟨V1.heap.size, 0, none⟩) 3 3] 36)).heap[V6.heap.size]? = some (.cells #[.string keyB, .slice (some ⟨V1.heap.size, 0, none⟩) 3 3] 36 (0, 0)) := heap_alloc_new V6 _
        obtain ⟨V7, hV7⟩ : ∃ V, V = V6.alloc (.cells #[.string keyB, .slice (some ⟨V1.heap.size, 0, none⟩) 3 3] 36) := ⟨_, rfl⟩
        rw [← hV7] at hHeld hbx hnx ⊢
        clear hV7
        have HBV7 : Aside0 (Below W.heap.size W V7) := ⟨hHeld⟩
        have HNL : Aside0 (V7.heap[W.heap.size]? = some (.cells #[.string { data := #[97] }, .string { data := #[120] }] 53 (0, 0))) := ⟨(hbx.block _ (blk_lt HNL.out)).trans HNL.out⟩
        have HNS : Aside0 (V7.heap[V1.heap.size]? = some (.cells #[.int .i64 0, .int .i64 0, .int .i64 0, .int .i64 (-524288), .int .u64 0, .int .u64 0, .int .i64 0, .slice none 0 0, .slice none 0 0, .int .i64 63, .int .i64 0, .int .i64 0, .int .i64 (-524288), .int .u64 0, .int .u64 0, .int .i64 0, .slice none 0 0, .slice none 0 0, .int .i64 64, .int .i64 0, .int .i64 0, .int .i64 (-524288), .int .u64 0, .int .u64 0, .int .i64 0, .slice none 0 0, .slice none 0 0] 56 (0, 0))) := ⟨(hbx.block _ (blk_lt HNS.out)).trans HNS.out⟩
        have HNR : Aside0 (V7.heap[V6.heap.size]? = some (.cells #[.string keyB, .slice (some ⟨V1.heap.size, 0, none⟩) 3 3] 36 (0, 0))) := ⟨hnx⟩
        clear hbx hnx
        refine wpAnyH_ready (rs := [12]) (by kernel_rfl) (by simp) ?_
        refine cons_l rfl (fun K hK => ?_) AllReadyH.nil
        go_simp
        go_at_call 11
        refine (make_3 V7 (V6.heap.size) (V1.heap.size) 1 3 (blk_cell HNR.out 0) (blk_cell HNR.out 1) (three_of HNS.out)).mono ?_
        intro e VM hmk
        obtain ⟨vm, rfl⟩ := hmk.ret
        have hmw := hmk.lower HBV7.out
        refine hK.out _ _ hmw.below (fun hHeld => ?_)
        clear hK K
        (try simp only [Act.put, List.setIfInBounds_toArray, List.set_cons_zero, List.set_cons_succ])
        have HMW := Aside0.mk hmw
        clear hmw hmk
        refine take_l (i := 13) (v := ?v13n504) rfl (by kernel_rfl) (by kernel_rfl) (by kernel_rfl) (fun _ _ _ h => h) (Or.inl ⟨by rfl, ?hy13n504⟩) (by assumption) ?rest13n504
        case hy13n504 => (intro w hSw; (try dsimp only at hSw); go_simp; try with_reducible rfl)
        (try simp only [Act.put, List.setIfInBounds_toArray, List.set_cons_zero, List.set_cons_succ])
        refine wpAnyH_done (by kernel_rfl) ?_ _
        refine NoPanic.normal ?_
        go_wp2
        go_meet
        exact HMW.out
    · go_simp
      refine hK.out _ _ (((Below.refl W.heap.size W).alloc (Nat.le_refl _) _).drew) (fun hHeld => ?_)
      clear hK K
      (try simp only [Act.put, List.setIfInBounds_toArray, List.set_cons_zero, List.set_cons_succ])
      have hbx : Below W.heap.size W ((W.alloc (.cells #[.int .i64 0, .int .i64 0, .int .i64 0, .int .i64 (-524288), .int .u64 0, .int .u64 0, .int .i64 0, .slice none 0 0, .slice none 0 0, .int .i64 63, .int .i64 0, .int .i64 0, .int .i64 (-524288), .int .u64 0, .int .u64 0, .int .i64 0, .slice none 0 0, .slice none 0 0, .int .i64 64, .int .i64 0, .int .i64 0, .int .i64 (-524288), .int .u64 0, .int .u64 0, .int .i64 0, .slice none 0 0, .slice none 0 0] 56)).drew) := ((Below.refl W.heap.size W).alloc (Nat.le_refl _) _).drew
      have hnx : ((W.alloc (.cells #[.int .i64 0, .int .i64 0, .int .i64 0, .int .i64 (-524288), .int .u64 0, .int .u64 0, .int .i64 0, .slice none 0 0, .slice none 0 0, .int .i64 63, .int .i64 0, .int .i64 0, .int .i64 (-524288), .int .u64 0, .int .u64 0, .int .i64 0, .slice none 0 0, .slice none 0 0, .int .i64 64, .int .i64 0, .int .i64 0, .int .i64 (-524288), .int .u64 0, .int .u64 0, .int .i64 0, .slice none 0 0, .slice none 0 0] 56)).drew).heap[W.heap.size]? = some (.cells #[.int .i64 0, .int .i64 0, .int .i64 0, .int .i64 (-524288), .int .u64 0, .int .u64 0, .int .i64 0, .slice none 0 0, .slice none 0 0, .int .i64 63, .int .i64 0, .int .i64 0, .int .i64 (-524288), .int .u64 0, .int .u64 0, .int .i64 0, .slice none 0 0, .slice none 0 0, .int .i64 64, .int .i64 0, .int .i64 0, .int .i64 (-524288), .int .u64 0, .int .u64 0, .int .i64 0, .slice none 0 0, .slice none 0 0] 56 (0, 0)) := heap_alloc_new W _
      obtain ⟨V8, hV8⟩ : ∃ V, V = (W.alloc (.cells #[.int .i64 0, .int .i64 0, .int .i64 0, .int .i64 (-524288), .int .u64 0, .int .u64 0, .int .i64 0, .slice none 0 0, .slice none 0 0, .int .i64 63, .int .i64 0, .int .i64 0, .int .i64 (-524288), .int .u64 0, .int .u64 0, .int .i64 0, .slice none 0 0, .slice none 0 0, .int .i64 64, .int .i64 0, .int .i64 0, .int .i64 (-524288), .int .u64 0, .int .u64 0, .int .i64 0, .slice none 0 0, .slice none 0 0] 56)).drew := ⟨_, rfl⟩
      rw [← hV8] at hHeld hbx hnx ⊢
      clear hV8
      have HBV8 : Aside0 (Below W.heap.size W V8) := ⟨hHeld⟩
      have HNS : Aside0 (V8.heap[W.heap.size]? = some (.cells #[.int .i64 0, .int .i64 0, .int .i64 0, .int .i64 (-524288), .int .u64 0, .int .u64 0, .int .i64 0, .slice none 0 0, .slice none 0 0, .int .i64 63, .int .i64 0, .int .i64 0, .int .i64 (-524288), .int .u64 0, .int .u64 0, .int .i64 0, .slice none 0 0, .slice none 0 0, .int .i64 64, .int .i64 0, .int .i64 0, .int .i64 (-524288), .int .u64 0, .int .u64 0, .int .i64 0, .slice none 0 0, .slice none 0 0] 56 (0, 0))) := ⟨hnx⟩
      clear hbx hnx
      refine wpAnyH_ready (rs := [1]) (by kernel_rfl) (by simp) ?_
      refine cons_l rfl (fun K hK => ?_) AllReadyH.nil
      go_simp
      refine hK.out _ _ ((HBV8.out.alloc HBV8.out.size _)) (fun hHeld => ?_)
      clear hK K
      (try simp only [Act.put, List.setIfInBounds_toArray, List.set_cons_zero, List.set_cons_succ])
      have hbx : Below V8.heap.size V8 (V8.alloc (.cells #[.string { data := #[97] }, .string { data := #[120] }] 53)) := (Below.refl V8.heap.size V8).alloc (Nat.le_refl _) _
      have hnx : (V8.alloc (.cells #[.string { data := #[97] }, .string { data := #[120] }] 53)).heap[V8.heap.size]? = some (.cells #[.string { data := #[97] }, .string { data := #[120] }] 53 (0, 0)) := heap_alloc_new V8 _
      obtain ⟨V9, hV9⟩ : ∃ V, V = V8.alloc (.cells #[.string { data := #[97] }, .string { data := #[120] }] 53) := ⟨_, rfl⟩
      rw [← hV9] at hHeld hbx hnx ⊢
      clear hV9
      have HBV9 : Aside0 (Below W.heap.size W V9) := ⟨hHeld⟩
      have HNS : Aside0 (V9.heap[W.heap.size]? = some (.cells #[.int .i64 0, .int .i64 0, .int .i64 0, .int .i64 (-524288), .int .u64 0, .int .u64 0, .int .i64 0, .slice none 0 0, .slice none 0 0, .int .i64 63, .int .i64 0, .int .i64 0, .int .i64 (-524288), .int .u64 0, .int .u64 0, .int .i64 0, .slice none 0 0, .slice none 0 0, .int .i64 64, .int .i64 0, .int .i64 0, .int .i64 (-524288), .int .u64 0, .int .u64 0, .int .i64 0, .slice none 0 0, .slice none 0 0] 56 (0, 0))) := ⟨(hbx.block _ (blk_lt HNS.out)).trans HNS.out⟩
      have HNL : Aside0 (V9.heap[V8.heap.size]? = some (.cells #[.string { data := #[97] }, .string { data := #[120] }] 53 (0, 0))) := ⟨hnx⟩
      clear hbx hnx
      refine wpAnyH_ready (rs := [2]) (by kernel_rfl) (by simp) ?_
      refine cons_l rfl (fun K hK => ?_) AllReadyH.nil
      go_simp
      go_at_call 15
      refine (key_1 V9 (V8.heap.size) (blk_cell HNL.out 0) (blk_cell HNL.out 1)).mono ?_
      rintro e V10 ⟨rfl, hbx⟩
      refine hK.out _ _ (HBV9.out.trans (hbx.mono HBV9.out.size)) (fun hHeld => ?_)
      clear hK K
      (try simp only [Act.put, List.setIfInBounds_toArray, List.set_cons_zero, List.set_cons_succ])
      have HBV10 : Aside0 (Below W.heap.size W V10) := ⟨hHeld⟩
      have HNS : Aside0 (V10.heap[W.heap.size]? = some (.cells #[.int .i64 0, .int .i64 0, .int .i64 0, .int .i64 (-524288), .int .u64 0, .int .u64 0, .int .i64 0, .slice none 0 0, .slice none 0 0, .int .i64 63, .int .i64 0, .int .i64 0, .int .i64 (-524288), .int .u64 0, .int .u64 0, .int .i64 0, .slice none 0 0, .slice none 0 0, .int .i64 64, .int .i64 0, .int .i64 0, .int .i64 (-524288), .int .u64 0, .int .u64 0, .int .i64 0, .slice none 0 0, .slice none 0 0] 56 (0, 0))) := ⟨(hbx.block _ (blk_lt HNS.out)).trans HNS.out⟩
      have HNL : Aside0 (V10.heap[V8.heap.size]? = some (.cells #[.string { data := #[97] }, .string { data := #[120] }] 53 (0, 0))) := ⟨(hbx.block _ (blk_lt HNL.out)).trans HNL.out⟩
      clear hbx
      refine take_l (i := 10) (v := ?v10n505) rfl (by kernel_rfl) (by kernel_rfl) (by kernel_rfl) (fun _ _ _ h => h) (Or.inl ⟨by rfl, ?hy10n505⟩) (by assumption) ?rest10n505
      case hy10n505 => (intro w hSw; (try dsimp only at hSw); go_simp; try with_reducible rfl)
      (try simp only [Act.put, List.setIfInBounds_toArray, List.set_cons_zero, List.set_cons_succ])
      refine wpAnyH_ready (rs := [11]) (by kernel_rfl) (by simp) ?_
      refine cons_l rfl (fun K hK => ?_) AllReadyH.nil
      go_simp
      refine hK.out _ _ ((HBV10.out.alloc HBV10.out.size _)) (fun hHeld => ?_)
      clear hK K
      (try simp only [Act.put, List.setIfInBounds_toArray, List.set_cons_zero, List.set_cons_succ])
      have hbx : Below V10.heap.size V10 (V10.alloc (.cells #[.string keyB, .slice (some ⟨W.heap.size, 0, none⟩) 3 3] 36)) := (Below.refl V10.heap.size V10).alloc (Nat.le_refl _) _
      have hnx : (V10.alloc (.cells #[.string keyB, .slice (some ⟨W.heap.size, 0, none⟩) 3 3] 36)).heap[V10.heap.size]? = some (.cells #[.string keyB, .slice (some ⟨W.heap.size, 0, none⟩) 3 3] 36 (0, 0)) := heap_alloc_new V10 _
      obtain ⟨V11, hV11⟩ : ∃ V, V = V10.alloc (.cells #[.string keyB, .slice (some ⟨W.heap.size, 0, none⟩) 3 3] 36) := ⟨_, rfl⟩
      rw [← hV11] at hHeld hbx hnx ⊢
      clear hV11
      have HBV11 : Aside0 (Below W.heap.size W V11) := ⟨hHeld⟩
      have HNS : Aside0 (V11.heap[W.heap.size]? = some (.cells #[.int .i64 0, .int .i64 0, .int .i64 0, .int .i64 (-524288), .int .u64 0, .int .u64 0, .int .i64 0, .slice none 0 0, .slice none 0 0, .int .i64 63, .int .i64 0, .int .i64 0, .int .i64 (-524288), .int .u64 0, .int .u64 0, .int .i64 0, .slice none 0 0, .slice none 0 0, .int .i64 64, .int .i64 0, .int .i64 0, .int .i64 (-524288), .int .u64 0, .int .u64 0, .int .i64 0, .slice none 0 0, .slice none 0 0] 56 (0, 0))) := ⟨(hbx.block _ (blk_lt HNS.out)).trans HNS.out⟩
      have HNL : Aside0 (V11.heap[V8.heap.size]? = some (.cells #[.string { data := #[97] }, .string { data := #[120] }] 53 (0, 0))) := ⟨(hbx.block _ (blk_lt HNL.out)).trans HNL.out⟩
      have HNR : Aside0 (V11.heap[V10.heap.size]? = some (.cells #[.string keyB, .slice (some ⟨W.heap.size, 0, none⟩) 3 3] 36 (0, 0))) := ⟨hnx⟩
      clear hbx hnx
      refine wpAnyH_ready (rs := [12]) (by kernel_rfl) (by simp) ?_
      refine cons_l rfl (fun K hK => ?_) AllReadyH.nil
      go_simp
      go_at_call 11
      refine (make_3 V11 (V10.heap.size) (W.heap.size) 1 3 (blk_cell HNR.out 0) (blk_cell HNR.out 1) (three_of HNS.out)).mono ?_
      intro e VM hmk
      obtain ⟨vm, rfl⟩ := hmk.ret
      have hmw := hmk.lower HBV11.out
      refine hK.out _ _ hmw.below (fun hHeld => ?_)
      clear hK K
      (try simp only [Act.put, List.setIfInBounds_toArray, List.set_cons_zero, List.set_cons_succ])
      have HMW := Aside0.mk hmw
      clear hmw hmk
      refine take_l (i := 13) (v := ?v13n506) rfl (by kernel_rfl) (by kernel_rfl) (by kernel_rfl) (fun _ _ _ h => h) (Or.inl ⟨by rfl, ?hy13n506⟩) (by assumption) ?rest13n506
      case hy13n506 => (intro w hSw; (try dsimp only at hSw); go_simp; try with_reducible rfl)
      (try simp only [Act.put, List.setIfInBounds_toArray, List.set_cons_zero, List.set_cons_succ])
      refine wpAnyH_done (by kernel_rfl) ?_ _
      refine NoPanic.normal ?_
      go_wp2
      go_meet
      exact HMW.out
  case rest =>
    obtain ⟨g, c, r0, c0, r1, c1, g0, cc, he, hbg, hk0, hk1, htwo, hbw⟩ := hcut
    injection he with he
    subst he
    have e0 : wc.cell? ⟨g, 0, none⟩ = some (.int .i64 0) := hbg.cell 0 _ rfl
    have e1 : wc.cell? ⟨g, 1, none⟩ = some (.int .i64 64) := hbg.cell 1 _ rfl
    have e2 : wc.cell? ⟨g, 2, none⟩ = some (.int .i64 0) := hbg.cell 2 _ rfl
    have e3 : wc.cell? ⟨g, 3, none⟩ = some (.slice (some ⟨r0, 0, none⟩) 1 c0) := hbg.cell 3 _ rfl
    have e4 : wc.cell? ⟨g, 4, none⟩ = some (.int .i64 64) := hbg.cell 4 _ rfl
    have HC := Aside0.mk (check_1 wc r0 c0 g0 cc hk0 hk1 htwo)
    have HBW := Aside0.mk (HB.out.trans (hbw.mono HB.out.size))
    clear hbg hk0 hk1 htwo hbw
    go_wp2_with (go_at_call 16; refine HC.out.mono ?_; rintro e w5 ⟨rfl, hb5⟩; have HB5 := Aside0.mk (HBW.out.trans (hb5.mono HBW.out.size)); clear hb5)
    go_ret
    exact ⟨rfl, HB5.out⟩

end Go.Proofs.Ytieoilnkfnlbaaa
