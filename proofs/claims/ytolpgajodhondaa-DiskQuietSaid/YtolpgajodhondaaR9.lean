/- The document's disk: bytes put behind a file's. -/
import Derived.Test.YtolpgajodhondaaR8
namespace Go.Proofs.Ytolpgajodhondaa
open Go.RowKit Go.Maps Go.Sort Go.WideMaps Go.Proofs.YtolpgajodhondaaW.PrintWords

theorem RefIs.refNames {w : World} {S : Nat → Prop} {q N L : Nat} {R : Ref} (h : RefIs w S q N L R) : ∃ D, RefNames w R.nb N R.xs D := by
  obtain ⟨D, h1, h2⟩ := h.names
  exact ⟨D, h1, h2⟩

theorem ref_later (w : World) (S : Nat → Prop) (q N L : Nat) (R : Ref) (D : DataW Unit) (hNL : N * L ≤ 4611686018427387903) (h : RefIs w S q N L R) (hD : RefNames w R.nb N R.xs D) :
    ∃ (T : Type) (fw : T → World), (∀ x, (fw x).cell? ⟨q, 0, none⟩ = some (.int .i64 R.room)) ∧ (∀ x, (fw x).cell? ⟨q, 2, none⟩ = some (.map (some R.nb))) ∧
      (∀ x, (Builtin.len_ #[63] 3 #[.map (some R.nb)]).run Try.prog (fw x) = .ok (.int .i64 (Maps.size D)) (fw x)) ∧
      (∀ x, Calls Try.prog 41 #[.pointer (some ⟨q, 0, none⟩)] (fw x) fun e w' => e = .returned (.int .i64 (usedN D R.xs)) ∧ ∃ y, w' = fw y) ∧ (∀ x, Below w.heap.size w (fw x)) ∧ ∃ x, w.drew = fw x := by
  have hin : ∀ x : { W : World // Below w.heap.size w W }, RefIs x.1 S q N L R := fun x => h.beside x.2
  have hnm : ∀ x : { W : World // Below w.heap.size w W }, RefNames x.1 R.nb N R.xs D := fun x => ⟨ownsMap_block hD.own (x.2.block _ hD.own.lt), hD.low⟩
  refine ⟨{ W : World // Below w.heap.size w W }, Subtype.val, fun x => (hin x).cells.1 0, fun x => (hin x).cells.1 2, fun x => (hnm x).own.len Try.underlying63 3, fun x => ?_, fun x => x.2, ⟨w.drew, (Below.refl _ _).drew⟩, rfl⟩
  exact (ref_used x.1 S q N L R D hNL (hin x) (hnm x)).mono fun e w' ⟨he, hb⟩ => ⟨he, ⟨w', x.2.trans (hb.mono x.2.size)⟩, rfl⟩

theorem info80 : (Try.prog.info? 80).map (fun i => (i.zero, i.size, i.bytes)) = some (some (.agg #[.string ⟨#[]⟩, .int .i64 0]), 2, 24) := by kernel_rfl

/-- A name more, of a number. -/
theorem RefIs.stored2 {w w' : World} {S : Nat → Prop} {q N L : Nat} {R : Ref} (h : RefIs w S q N L R) (hm : NumAt w' R.nb N R.xs.length) (ht : w.mapTurned w' R.nb) : RefIs w' S q N L R :=
  ⟨h.sq, h.sn, h.sf, (mapTurned_other ht q h.q_ne_n (blk_lt h.blk)).trans h.blk, hm, own_keep h.files (fun k e hl => mapTurned_other ht k (h.n_ne_f e) hl), h.len, h.short, h.vS⟩

/-- A file more, of no bytes. -/
theorem RefIs.grown {w0 w w5 : World} {S : Nat → Prop} {q N L : Nat} {R : Ref} {v1 : Value} (h : RefIs w S q N L R) (hs : w0.heap.size ≤ w.heap.size) (hown : w5.ownsRow 0 80 2 v1 (R.xs.length + 1) (fileCells R.xs ++ [.string ⟨#[]⟩, .int .i64 0])) (hg : w.grownBy w5 R.vF.ownBlock) (hat : v1.ownBlock = R.vF.ownBlock ∨ ∃ b, v1.ownBlock = some b ∧ w.heap.size ≤ b) :
    RefIs (w5.setCell ⟨q, 1, none⟩ v1) (Ytolpgajodhondaa.more S w0) q (N + 1) L { R with vF := v1, xs := R.xs ++ [(⟨#[]⟩, 0)] } ∧ NumAt (w5.setCell ⟨q, 1, none⟩ v1) R.nb N (R.xs.length + 1) := by
  have hq : q < w.heap.size := blk_lt h.blk
  have hk : ∀ k, k < w.heap.size → R.vF.ownBlock ≠ some k → w5.heap[k]? = w.heap[k]? := fun k hl hn => hg.block k hl (fun e => hn e.symm)
  have hq5 : w5.heap[q]? = some (.cells (refCells R) 66 (0, 0)) := (hk q hq (fun e => h.q_ne_f e rfl)).trans h.blk
  have hset : ∀ k, k ≠ q → (w5.setCell ⟨q, 1, none⟩ v1).heap[k]? = w5.heap[k]? := fun k hk => Below.heap_setCell _ _ _ _ hk
  have hnq : ∀ k, v1.ownBlock = some k → k ≠ q := fun k e => by
    rcases hat with h' | ⟨b, h', hb⟩
    · exact h.q_ne_f (h' ▸ e)
    · rw [h'] at e
      cases e
      omega
  have hn : NumAt (w5.setCell ⟨q, 1, none⟩ v1) R.nb N R.xs.length := h.names.keep ((hset _ (Ne.symm h.q_ne_n)).trans (hk _ h.names.lt (fun e => h.n_ne_f e rfl)))
  have hlen : (R.xs ++ [((⟨#[]⟩ : ByteArray), (0 : Int))]).length = R.xs.length + 1 := by simp
  refine ⟨⟨.inl h.sq, .inl h.sn, fun k e => ?_, blk_put hq5 1 _ rfl, ?_, ?_, ?_, ?_, h.vS⟩, hn.mono (Nat.le_refl _) (Nat.le_succ _)⟩
  · rcases hat with h' | ⟨b, h', hb⟩
    · exact .inl (h.sf k (h' ▸ e))
    · rw [show ({ R with vF := v1, xs := R.xs ++ [(⟨#[]⟩, 0)] } : Ref).vF = v1 from rfl, h'] at e
      cases e
      exact .inr (by omega)
  · show NumAt _ R.nb (N + 1) (R.xs ++ [((⟨#[]⟩ : ByteArray), (0 : Int))]).length
    rw [hlen]
    exact hn.mono (Nat.le_succ _) (Nat.le_succ _)
  · show World.ownsRow _ 0 80 2 v1 (R.xs ++ [((⟨#[]⟩ : ByteArray), (0 : Int))]).length (fileCells (R.xs ++ [(⟨#[]⟩, 0)]))
    rw [hlen, show fileCells (R.xs ++ [((⟨#[]⟩ : ByteArray), (0 : Int))]) = fileCells R.xs ++ [.string ⟨#[]⟩, .int .i64 0] by simp [fileCells]]
    exact own_keep hown (fun k e _ => hset k (hnq k e))
  · show (R.xs ++ [((⟨#[]⟩ : ByteArray), (0 : Int))]).length ≤ N + 1
    rw [hlen]
    exact Nat.succ_le_succ h.len
  · intro x hx
    rcases List.mem_append.1 hx with hx | hx
    · exact h.short x hx
    · rw [List.mem_singleton.1 hx]
      exact Nat.zero_le _

def PutRel (w : World) (S : Nat → Prop) (q N L : Nat) (v : Value) (wx : World) : Prop :=
  ∃ (i : Nat) (R : Ref), v = .int .i64 i ∧ i < R.xs.length ∧ RefIs wx (more S w) q (N + 1) L R ∧ Keeps S w wx

set_option maxHeartbeats 4000000 in
set_option maxRecDepth 100000 in
theorem ref_append (w : World) (S : Nat → Prop) (q N L : Nat) (s t : ByteArray) (hs : s.size ≤ maxLen) (hN : N ≤ 1000000) (hL : L ≤ 1000000) (ht : t.size ≤ 1000000) (h : RefIn w S q N L) :
    Calls Try.prog 28 #[.pointer (some ⟨q, 0, none⟩), .string s, .string t] w (NumPost w S q (N + 1) (L + t.size)) := by
  have hst := ref_step w S q N L h
  clear h
  go_enter Try.func28, Try.ntmps28
  go_wp2_with fail
  refine hst.mono ?_
  rintro e w1 ⟨b, rfl, ⟨R, hin⟩, hk, hsz⟩
  have HI := Aside0.mk hin
  have HK := Aside0.mk hk
  have HZ := Aside0.mk hsz
  have c2 : w1.cell? ⟨q, 2, none⟩ = some (.map (some R.nb)) := hin.cells.1 2
  obtain ⟨i, ok, hl, hok⟩ := hin.names.lookOk s hs
  have HOK := Aside0.mk hok
  clear hk hsz hst hin hok
  cases b with
  | false =>
    clear hl
    go_wp2
    go_ret
    exact ⟨_, rfl, ⟨R, (HI.out.mono (Nat.le_succ N) (Nat.le_add_right L t.size)).more⟩, HK.out⟩
  | true =>
    go_wp2_with fail
    refine (ref_name w1 s).mono ?_
    rintro e w' ⟨b2, rfl, hw⟩
    subst hw
    cases b2 with
    | false =>
      go_wp2
      go_ret
      exact ⟨_, rfl, ⟨R, (HI.out.mono (Nat.le_succ N) (Nat.le_add_right L t.size)).more⟩, HK.out⟩
    | true =>
      obtain ⟨D, hD⟩ := HI.out.refNames
      have hNL : N * L ≤ 1000000000000 := Nat.mul_le_mul hN hL
      have hU := usedN_le hD HI.out.short
      obtain ⟨T, fw, k0, k2, klen, kused, kb, ⟨x0, hx0⟩⟩ := ref_later w' S q N L R D (by omega) HI.out hD
      generalize usedN D R.xs = U at *
      generalize Maps.size D = C at *
      clear hD
      haveI : Nonempty T := ⟨x0⟩
      have KU := Aside0.mk kused
      have KB := Aside0.mk kb
      have KX := Aside0.mk hx0
      clear kused kb hx0
      have hwr : IntKind.i64.wrap ((U : Int) + (t.size : Int)) = (U : Int) + (t.size : Int) := IntWalk.i64_in _ (by omega)
      go_upto_region 6 with fail
      go_cut [45] (fun s45 wx => (∃ full : Bool, s45 = .bool full) ∧ Below w'.heap.size w' wx)
      case first =>
        by_cases hbig : R.room < (U : Int) + (t.size : Int)
        · have hbg : decide (R.room < (U : Int) + (t.size : Int)) = true := decide_eq_true hbig
          clear hbig
          refine wp_region_family fw (by kernel_rfl) (by kernel_rfl) ⟨x0, KX.out⟩ ?_
          repeat (first | go_big_quiet_step ((go_at_call 41; exact KU.out _)) | quiet_step (fail))
          refine wpQuiet_nil ?_
          rintro w' ⟨x, rfl⟩
          go_wp2
          go_meet
          exact ⟨⟨_, rfl⟩, KB.out x⟩
        · have hbg : decide (R.room < (U : Int) + (t.size : Int)) = false := decide_eq_false hbig
          clear hbig
          cases ok
          all_goals
            refine wp_region_family fw (by kernel_rfl) (by kernel_rfl) ⟨x0, KX.out⟩ ?_
            repeat (first | go_big_quiet_step ((go_at_call 41; exact KU.out _)) | quiet_step (fail))
            refine wpQuiet_nil ?_
            rintro w' ⟨x, rfl⟩
            go_wp2
            go_meet
            exact ⟨⟨_, rfl⟩, KB.out x⟩
      case rest =>
        obtain ⟨⟨full, rfl⟩, hbc⟩ := hcut
        clear hwr k0 k2 klen
        have HI3 := Aside0.mk (HI.out.beside hbc)
        have HK3 := Aside0.mk (HK.out.trans (Keeps.of_new (S := fun _ => False) hbc) (fun i hi => hi.elim))
        clear hbc
        cases full with
        | true =>
          go_wp2
          go_ret
          exact ⟨_, rfl, ⟨R, (HI3.out.mono (Nat.le_succ N) (Nat.le_add_right L t.size)).more⟩, HK3.out⟩
        | false =>
          go_upto_if 47 with fail
          go_cut [7] (fun s7 wx => PutRel w S q N L s7 wx)
          case first =>
            cases ok with
            | true =>
              go_wp2
              go_meet
              exact ⟨i, R, rfl, HOK.out (by trivial), (HI3.out.mono (Nat.le_succ N) (Nat.le_refl L)).more, HK3.out⟩
            | false =>
              obtain ⟨A, cc, hvF, _⟩ := HI3.out.row
              have c1 : wc.cell? ⟨q, 1, none⟩ = some R.vF := HI3.out.cells.1 1
              rw [hvF] at c1
              have HFL : Aside0 (wc.ownsRow 0 80 2 (.slice A R.xs.length cc) R.xs.length (fileCells R.xs)) := ⟨hvF ▸ HI3.out.files⟩
              have HVF := Aside0.mk hvF
              have hlb : (R.xs.length + 1) * 24 ≤ 140737488355328 := by have := HI3.out.len; omega
              have HLB := Aside0.mk hlb
              have hsw : w.heap.size ≤ wc.heap.size := HK3.out.size
              have HSW := Aside0.mk hsw
              clear hvF hlb hsw hl
              go_wp2_with (at_builtin
                           refine print_append_cells (w0 := wc) 0 rfl (.tmp 57) (.tmp 59) 64 80 (.agg #[.string ⟨#[]⟩, .int .i64 0]) 2 24 rfl Try.underlying64 info80 rfl (by decide) (by decide) (.slice A R.xs.length cc) R.xs.length (fileCells R.xs) [.string ⟨#[]⟩, .int .i64 0] rfl rfl rfl (by simp [Value.oneCell']) HFL.out (Below.refl 0 _) (Nat.zero_le _) HLB.out ?_
                           intro v1 w5 hown hb0 hg hat
                           rw [← HVF.out] at hg hat
                           obtain ⟨A1, cA, rfl⟩ := own_slice hown
                           have hq5 : w5.heap[q]? = some (.cells (refCells R) 66 (0, 0)) := (hg.block q (blk_lt HI3.out.blk) (fun e => HI3.out.q_ne_f e.symm rfl)).trans HI3.out.blk
                           have c5 : w5.cell? ⟨q, 1, none⟩ = some R.vF := blk_cell hq5 1
                           rw [HVF.out] at c5
                           have f5 := blk_frozen hq5 1
                           obtain ⟨hr6, hn6⟩ := HI3.out.grown HSW.out hown hg hat
                           have c6 := hr6.cells.1 2
                           change _ = some (Value.map (some R.nb)) at c6
                           obtain ⟨w7, hrun, hm7, ht7⟩ := hn6.store (by unfold maxLen; omega) s hs R.xs.length (Nat.lt_succ_self _)
                           have hk7 := ((HK3.out.grown (row := R.vF.ownBlock) hg (fun k e => .inl (HI3.out.sf k e))).setCell (p := ⟨q, 1, none⟩) (.inl HI3.out.sq) (.slice A1 (R.xs.length + 1) cA)).turned ht7 (.inl HI3.out.sn)
                           have hr7 := hr6.stored2 (by simpa using hm7) ht7
                           have HR7 := Aside0.mk hr7
                           have HK7 := Aside0.mk hk7
                           clear hown hb0 hg hat hq5 hr6 hn6 hm7 ht7 hk7 hr7)
              go_meet
              refine ⟨R.xs.length, _, rfl, ?_, HR7.out, HK7.out⟩
              simp
          case rest =>
            clear hl
            obtain ⟨i', R', rfl, hi, hr, hk⟩ := hcut
            obtain ⟨A, cc, hvF, hrow⟩ := hr.row
            obtain ⟨y, hy⟩ : ∃ y, R'.xs[i']? = some y := ⟨_, List.getElem?_eq_getElem hi⟩
            obtain ⟨g, rfl, hSg, k1, k2⟩ := hrow i' y hy
            have c1 : wc.cell? ⟨q, 1, none⟩ = some R'.vF := hr.cells.1 1
            have hob : R'.vF.ownBlock = some g := by rw [hvF]; rfl
            have hfz : wc.frozen? ⟨g, i' * 2, none⟩ = false := by
              obtain ⟨cur, hc⟩ := own_cells hr.files hob
              exact blk_frozen hc _
            rw [hvF] at c1
            have hyL : y.1.size ≤ L := hr.short y (List.mem_of_getElem? hy)
            have hr2 : RefIs (wc.setCell ⟨g, i' * 2, none⟩ (.string (y.1 ++ t))) (more S w) q (N + 1) (L + t.size) { R' with xs := R'.xs.set i' (y.1 ++ t, y.2) } := hr.filed hob (by simp) (fileCells_set0 _ _ _ _ hy) (fun x hx => by
              rcases List.mem_or_eq_of_mem_set hx with hx | rfl
              · exact Nat.le_trans (hr.short x hx) (Nat.le_add_right _ _)
              · show (y.1 ++ t).size ≤ L + t.size
                rw [ByteArray.size_append]
                omega)
            have hi' : decide (i' < R'.xs.length) = true := decide_eq_true hi
            have hI0 : (0 : Int) ≤ (i' : Int) := Int.natCast_nonneg _
            have hI1 : (i' : Int) < (R'.xs.length : Int) := by omega
            have hadd : (9223372036854775807 < y.1.size + t.size) = False := eq_false (by omega)
            have HR2 := Aside0.mk hr2
            have HK2 := Aside0.mk (hk.setCell (p := ⟨g, i' * 2, none⟩) hSg (.string (y.1 ++ t)))
            clear hrow hy hob hSg hvF hr hk hr2
            go_upto_region 12 with fail
            go_still_tail 17, (by kernel_rfl)
            change wpList _ _ _ _ _ wc.drew
            have k1' : wc.drew.cell? ⟨g, i' * 2, none⟩ = some (.string y.1) := k1
            have hfz' : wc.drew.frozen? ⟨g, i' * 2, none⟩ = false := hfz
            generalize hwd : wc.drew = wd at *
            have HWD := Aside0.mk hwd
            clear k1 hfz c1 hwd
            go_wp2
            go_ret
            rw [← HWD.out]
            exact ⟨_, rfl, ⟨_, HR2.out.keep (fun _ _ _ => rfl) (fun _ h => h)⟩, HK2.out.drewN 1⟩

end Go.Proofs.Ytolpgajodhondaa
