/- The document's disk: a file renamed; bytes made sure. -/
import Derived.Test.YtolpgajodhondaaR6
namespace Go.Proofs.Ytolpgajodhondaa
open Go.RowKit Go.Maps Go.Sort Go.WideMaps Go.Proofs.YtolpgajodhondaaW.PrintWords

/-- A name more. -/
theorem RefIs.stored {w w' : World} {S : Nat → Prop} {q N L : Nat} {R : Ref} (h : RefIs w S q N L R) (hm : NumAt w' R.nb (N + 1) R.xs.length) (ht : w.mapTurned w' R.nb) : RefIs w' S q (N + 1) L R :=
  ⟨h.sq, h.sn, h.sf, (mapTurned_other ht q h.q_ne_n (blk_lt h.blk)).trans h.blk, hm, own_keep h.files (fun k e hl => mapTurned_other ht k (h.n_ne_f e) hl), Nat.le_succ_of_le h.len, h.short, h.vS⟩

set_option maxHeartbeats 1000000 in
theorem ref_rename (w : World) (S : Nat → Prop) (q N L : Nat) (s t : ByteArray) (hs : s.size ≤ maxLen) (ht : t.size ≤ maxLen) (hN : N < maxLen) (h : RefIn w S q N L) : Calls Try.prog 30 #[.pointer (some ⟨q, 0, none⟩), .string s, .string t] w (NumPost w S q (N + 1) L) := by
  have hst := ref_step w S q N L h
  clear h
  go_enter Try.func30, Try.ntmps30
  go_wp2_with fail
  refine hst.mono ?_
  rintro e w1 ⟨b, rfl, ⟨R, hin⟩, hk, hsz⟩
  have HI := Aside0.mk hin
  have HK := Aside0.mk hk
  have HZ := Aside0.mk hsz
  have c2 : w1.cell? ⟨q, 2, none⟩ = some (.map (some R.nb)) := hin.cells.1 2
  have hcp := Aside0.mk (without_any w1 R.nb N R.xs.length s hN hin.names)
  obtain ⟨i, ok, hl, hok⟩ := hin.names.lookOk s hs
  have HOK := Aside0.mk hok
  clear hk hsz hst hin hok
  cases b with
  | false =>
    clear hl
    go_wp2
    go_ret
    exact ⟨_, rfl, ⟨R, (HI.out.mono (Nat.le_succ N) (Nat.le_refl L)).more⟩, HK.out⟩
  | true =>
    cases ok with
    | false =>
      go_wp2
      go_ret
      exact ⟨_, rfl, ⟨R, (HI.out.mono (Nat.le_succ N) (Nat.le_refl L)).more⟩, HK.out⟩
    | true =>
      go_wp2_with fail
      refine (ref_name w1 t).mono ?_
      rintro e w' ⟨b2, rfl, hw⟩
      subst hw
      cases b2 with
      | false =>
        go_wp2
        go_ret
        exact ⟨_, rfl, ⟨R, (HI.out.mono (Nat.le_succ N) (Nat.le_refl L)).more⟩, HK.out⟩
      | true =>
        go_wp2_with fail
        refine hcp.out.mono ?_
        rintro e w2 ⟨g, rfl, hm, hg, hb⟩
        have HI2 := Aside0.mk (HI.out.beside hb)
        have hr := HI.out.renamed (w1 := w) (Nat.le_of_eq HZ.out.symm) hb hm hg
        have HR := Aside0.mk hr
        have HKK := Aside0.mk ((HK.out.trans (Keeps.of_new (S := fun _ => False) hb) (fun i hi => hi.elim)).setCell (p := ⟨q, 2, none⟩) (.inl HI.out.sq) (.map (some g)))
        have HG := Aside0.mk hg
        have c3 : w2.cell? ⟨q, 2, none⟩ = some (.map (some R.nb)) := HI2.out.cells.1 2
        have f3 := HI2.out.cells.2 2
        have c4 : (w2.setCell ⟨q, 2, none⟩ (.map (some g))).cell? ⟨q, 2, none⟩ = some (.map (some g)) := hr.cells.1 2
        obtain ⟨w5, hrun, hm5, ht5⟩ := hr.names.store hN t ht i (HOK.out (by trivial))
        have HM5 := Aside0.mk hm5
        have HT5 := Aside0.mk ht5
        clear hb hm hg hcp hr hm5 ht5
        go_wp2
        go_ret
        exact ⟨_, rfl, ⟨_, HR.out.stored HM5.out HT5.out⟩, HKK.out.turned HT5.out (.inr (by have := HG.out; have := HZ.out; show w.heap.size ≤ g; omega))⟩

end Go.Proofs.Ytolpgajodhondaa
