/- The document's disk: names made sure, taken away, given; bytes made sure. -/
import Derived.Test.YtolpgajodhondaaR5
namespace Go.Proofs.Ytolpgajodhondaa
open Go.RowKit Go.Maps Go.Sort Go.WideMaps Go.Proofs.YtolpgajodhondaaW.PrintWords

def NumPost (w : World) (S : Nat → Prop) (q N L : Nat) (e : Ending) (w' : World) : Prop := ∃ n : Int, e = .returned (.int .i64 n) ∧ RefIn w' (more S w) q N L ∧ Keeps S w w'

theorem RefIs.more {w w' : World} {S : Nat → Prop} {q N L : Nat} {R : Ref} (h : RefIs w' S q N L R) : RefIs w' (more S w) q N L R := h.keep (fun _ _ _ => rfl) (fun _ hk => .inl hk)

/-- The names are a new map. -/
theorem RefIs.renamed {w1 w w2 : World} {S : Nat → Prop} {q N L g : Nat} {R : Ref} (h : RefIs w S q N L R) (hs : w1.heap.size ≤ w.heap.size) (hb : Below w.heap.size w w2) (hm : NumAt w2 g N R.xs.length) (hg : w.heap.size ≤ g) :
    RefIs (w2.setCell ⟨q, 2, none⟩ (.map (some g))) (Ytolpgajodhondaa.more S w1) q N L { R with nb := g } := by
  have h2 := h.beside hb
  have hq : q < w.heap.size := blk_lt h.blk
  have hset : ∀ k, k ≠ q → (w2.setCell ⟨q, 2, none⟩ (.map (some g))).heap[k]? = w2.heap[k]? := fun k hk => Below.heap_setCell _ _ _ _ hk
  exact ⟨.inl h.sq, .inr (by show w1.heap.size ≤ g; omega), fun k e => .inl (h.sf k e), blk_put h2.blk 2 _ rfl, hm.keep (hset g (by omega)), own_keep h2.files (fun k e _ => hset k (h2.q_ne_f e)), h.len, h.short, h.vS⟩

set_option maxHeartbeats 1000000 in
theorem ref_syncNames (w : World) (S : Nat → Prop) (q N L : Nat) (hN : N < maxLen) (h : RefIn w S q N L) : Calls Try.prog 32 #[.pointer (some ⟨q, 0, none⟩)] w (NumPost w S q N L) := by
  have hst := ref_step w S q N L h
  clear h
  go_enter Try.func32, Try.ntmps32
  go_wp2_with fail
  refine hst.mono ?_
  rintro e w1 ⟨b, rfl, ⟨R, hin⟩, hk, hsz⟩
  have HI := Aside0.mk hin
  have HK := Aside0.mk hk
  have HZ := Aside0.mk hsz
  have c2 : w1.cell? ⟨q, 2, none⟩ = some (.map (some R.nb)) := hin.cells.1 2
  have hcp := Aside0.mk (copied_any w1 R.nb N R.xs.length hN hin.names)
  clear hk hsz hst hin
  cases b with
  | false =>
    go_wp2
    go_ret
    exact ⟨_, rfl, ⟨R, HI.out.more⟩, HK.out⟩
  | true =>
    go_wp2_with fail
    refine hcp.out.mono ?_
    rintro e w2 ⟨g, rfl, hm, hg, hb⟩
    have HI2 := Aside0.mk (HI.out.beside hb)
    have HB := Aside0.mk hb
    obtain ⟨bS, hbS⟩ := HI.out.vS
    have c3 : w2.cell? ⟨q, 3, none⟩ = some R.vS := HI2.out.cells.1 3
    have f3 := HI2.out.cells.2 3
    rw [hbS] at c3
    have HBS := Aside0.mk hbS
    clear hb hm hg hcp hbS
    go_wp2
    go_ret
    exact ⟨_, rfl, ⟨{ R with vS := .map (some g) }, (HI2.out.own (R' := { R with vS := .map (some g) }) (blk_put HI2.out.blk 3 _ rfl) (fun k hk _ => Below.heap_setCell _ _ _ _ hk) rfl rfl rfl ⟨_, rfl⟩).more⟩,
      (HK.out.trans (Keeps.of_new (S := fun _ => False) HB.out) (fun i hi => hi.elim)).setCell (.inl HI.out.sq) _⟩

set_option maxHeartbeats 1000000 in
theorem ref_remove (w : World) (S : Nat → Prop) (q N L : Nat) (s : ByteArray) (hs : s.size ≤ maxLen) (hN : N < maxLen) (h : RefIn w S q N L) : Calls Try.prog 31 #[.pointer (some ⟨q, 0, none⟩), .string s] w (NumPost w S q N L) := by
  have hst := ref_step w S q N L h
  clear h
  go_enter Try.func31, Try.ntmps31
  go_wp2_with fail
  refine hst.mono ?_
  rintro e w1 ⟨b, rfl, ⟨R, hin⟩, hk, hsz⟩
  have HI := Aside0.mk hin
  have HK := Aside0.mk hk
  have HZ := Aside0.mk hsz
  have c2 : w1.cell? ⟨q, 2, none⟩ = some (.map (some R.nb)) := hin.cells.1 2
  have hcp := Aside0.mk (without_any w1 R.nb N R.xs.length s hN hin.names)
  obtain ⟨i, ok, hl, hok⟩ := hin.names.lookOk s hs
  clear hk hsz hst hin hok
  cases b with
  | false =>
    clear hl
    go_wp2
    go_ret
    exact ⟨_, rfl, ⟨R, HI.out.more⟩, HK.out⟩
  | true =>
    cases ok with
    | false =>
      go_wp2
      go_ret
      exact ⟨_, rfl, ⟨R, HI.out.more⟩, HK.out⟩
    | true =>
      go_wp2_with fail
      refine hcp.out.mono ?_
      rintro e w2 ⟨g, rfl, hm, hg, hb⟩
      have HI2 := Aside0.mk (HI.out.beside hb)
      have HB := Aside0.mk hb
      have HM := Aside0.mk hm
      have HG := Aside0.mk hg
      have c3 : w2.cell? ⟨q, 2, none⟩ = some (.map (some R.nb)) := HI2.out.cells.1 2
      have f3 := HI2.out.cells.2 2
      clear hb hm hg hcp
      go_wp2
      go_ret
      exact ⟨_, rfl, ⟨_, HI.out.renamed (Nat.le_of_eq HZ.out.symm) HB.out HM.out HG.out⟩, (HK.out.trans (Keeps.of_new (S := fun _ => False) HB.out) (fun i hi => hi.elim)).setCell (.inl HI.out.sq) _⟩

end Go.Proofs.Ytolpgajodhondaa
