/- The document's example of a disk: the walk. -/
import Derived.Test.YtolpgajodhondaaD14
import Derived.Lib.SlBytesConst
namespace Go.Proofs.Ytolpgajodhondaa
open Go.RowKit Go.Maps Go.Sort Go.WideMaps Go.Proofs.YtolpgajodhondaaW.PrintWords

theorem reads_new (w : World) (l : List UInt8) (fr : Nat × Nat) (hl : l.length ≤ 1000) : ReadsInt (w.alloc (.cells ((ints l).map (Value.int .u8)).toArray 5 fr)) .u8 (some ⟨w.heap.size, 0, none⟩) l.length (ints l) := by
  refine ⟨ints_length l, by omega, fun _ => ⟨_, rfl, fun j hj => ?_⟩⟩
  refine World.news_of_block (heap_alloc_new w _) j _ ?_
  have : j < (ints l).length := by rw [ints_length]; exact hj
  simp [List.getElem?_eq_getElem this, List.getD_eq_getElem?_getD]

set_option maxHeartbeats 4000000 in
set_option maxRecDepth 100000 in
theorem awake_any (w : World) : Calls Try.prog 7 #[] w fun e w' => e = .returned (.bool true) ∧ Below w.heap.size w w' := by
  have kc := fun (w : World) (C : Array Value) (n c : Nat) => Lib.run_convert_bytes_const (P := Try.prog) w 31 5 C n c Try.underlying31 Try.underlying5
  go_enter Try.func7, Try.ntmps7
  go_wp2_with fail
  refine (now_new w 9 (by decide) (by decide)).mono ?_
  rintro e w1 ⟨d, rfl, h1, hb1⟩
  have H1 := Aside0.mk h1
  have HB1 := Aside0.mk hb1
  clear h1 hb1
  go_wp2_with fail
  have hw2 : ∃ w2, w2 = w1.alloc (Obj.cells #[Value.int IntKind.u8 97, Value.int IntKind.u8 98] 5 (2, 3)) := ⟨_, rfl⟩
  obtain ⟨w2, hw2⟩ := hw2
  have hr2 : ReadsInt w2 .u8 (some ⟨w1.heap.size, 0, none⟩) [97, 98].length (ints [97, 98]) := hw2 ▸ reads_new w1 [97, 98] (2, 3) (by decide)
  have hb12 : Below w1.heap.size w1 w2 := hw2 ▸ (Below.refl _ _).alloc (Nat.le_refl _) _
  have hb2 : w.heap.size ≤ w2.heap.size := Nat.le_trans HB1.out.size hb12.size
  have hx := (now_append (Q := fun A => One A 9 [97, 98] 0 false) (H1.out.beside hb12) hb2 ⟨#[102]⟩ [97, 98] (by decide) (by decide) (by decide) (by decide) _ 2 hr2 (fun a ha => by cases ha; exact Nat.le_refl _) (by rintro B rfl; exact ⟨rfl, by decide, by decide, fun g => ⟨fresh_append, rfl⟩⟩))
  rw [hw2] at hx
  refine hx.mono ?_
  rintro e w3 ⟨v3, rfl, rfl, h3, hb3⟩
  rw [← hw2] at hb3
  have H3 := Aside0.mk h3
  have HB3 := Aside0.mk ((HB1.out.trans (hb12.mono HB1.out.size)).trans hb3)
  clear h3 hb3 hr2 hb12 hb2 hw2 hx
  go_wp2_with fail
  refine (now_sync (Q := fun A => One A 9 [97, 98] 2 false) (r := fun _ => True) H3.out HB3.out.size ⟨#[102]⟩ (by decide) (fun B hB => ⟨hB.sync, trivial⟩)).mono ?_
  rintro e w4 ⟨v4, rfl, _, h4, hb4⟩
  have H4 := Aside0.mk h4
  have HB4 := Aside0.mk (HB3.out.trans hb4)
  clear h4 hb4
  go_wp2_with fail
  refine (now_syncNames (Q := fun A => One A 9 [97, 98] 2 true) (r := fun _ => True) H4.out HB4.out.size (fun B hB => ⟨by
    have e : B.syncNames = ({ B.step.1 with sure := B.step.1.names }, 0) := by unfold Disk.syncNames; rw [if_neg (by rw [step_calm hB.down hB.fuse]; simp)]
    rw [e]
    exact hB.syncNames, trivial⟩)).mono ?_
  rintro e w5 ⟨v5, rfl, _, h5, hb5⟩
  have H5 := Aside0.mk h5
  have HB5 := Aside0.mk (HB4.out.trans hb5)
  clear h5 hb5
  go_wp2_with fail
  have hw6 : ∃ w6, w6 = w5.alloc (Obj.cells #[Value.int IntKind.u8 99] 5 (1, 2)) := ⟨_, rfl⟩
  obtain ⟨w6, hw6⟩ := hw6
  have hr6 : ReadsInt w6 .u8 (some ⟨w5.heap.size, 0, none⟩) [99].length (ints [99]) := hw6 ▸ reads_new w5 [99] (1, 2) (by decide)
  have hb56 : Below w5.heap.size w5 w6 := hw6 ▸ (Below.refl _ _).alloc (Nat.le_refl _) _
  have hb6 : w.heap.size ≤ w6.heap.size := Nat.le_trans HB5.out.size hb56.size
  have hx := (now_append (Q := fun A => One A 9 [97, 98, 99] 2 true) (H5.out.beside hb56) hb6 ⟨#[102]⟩ [99] (by decide) (by decide) (by decide) (by decide) _ 1 hr6 (fun a ha => by cases ha; exact Nat.le_refl _) (by
    intro B hB
    have hr : ∀ g, (B.step.1.append1 true false g [102] [99]).2 = 0 := fun g => by
      rw [step_calm hB.down hB.fuse]
      unfold Disk.append1
      simp
      split <;> rfl
    exact ⟨by rw [step_calm hB.down hB.fuse], by decide, by rw [step_calm hB.down hB.fuse]; show ((_ : Nat) : Int) ≤ B.room; rw [hB.room]; decide, fun g => ⟨hB.append g, hr g⟩⟩))
  rw [hw6] at hx
  refine hx.mono ?_
  rintro e w7 ⟨v7, rfl, rfl, h7, hb7⟩
  rw [← hw6] at hb7
  have H7 := Aside0.mk h7
  have HB7 := Aside0.mk ((HB5.out.trans (hb56.mono HB5.out.size)).trans hb7)
  clear h7 hb7 hr6 hb56 hb6 hw6 hx
  have hn1 : 0 + 1 + 1 ≤ 4398046511103 := by decide
  go_wp2_with fail
  refine (now_crash (Q := fun B => B.down = false ∧ ∃ f, B.names [102] = some f ∧ (B.file f).1 = [97, 98]) H7.out HB7.out.size _ _ [] (by decide) (by decide) ⟨none, 0, 0, rfl, by decide, fun h => absurd h (by decide)⟩ ⟨none, 0, rfl, by decide, fun h => absurd h (by decide)⟩ (by
    intro B hB ts m F hk
    obtain ⟨g, hg, hF⟩ := hB.crash hk
    exact ⟨rfl, g, hg, by show (F g).1 = _; rw [hF]; rfl⟩)).mono ?_
  rintro e w8 ⟨o, rfl, h8, hb8⟩
  have H8 := Aside0.mk h8
  have HB8 := Aside0.mk (HB7.out.trans (hb8.mono HB7.out.size))
  have H78 := Aside0.mk (H7.out.beside hb8)
  clear h8 hb8
  go_wp2_with fail
  refine (now_read H8.out ⟨#[102]⟩ (by decide) (by decide) [97, 98] (fun B hB => hB)).mono ?_
  rintro e w9 ⟨v9, rfl, ho9, hb9⟩
  have H79 := Aside0.mk (H78.out.beside hb9)
  have HO9 := Aside0.mk ho9
  have HB9 := Aside0.mk (HB8.out.trans (hb9.mono HB8.out.size))
  clear ho9 hb9
  go_wp2_with fail
  have hb910 : Below w9.heap.size w9 (w9.alloc (Obj.cells #[Value.int IntKind.u16 1] 46)) := (Below.refl _ _).alloc (Nat.le_refl _) _
  have hcr : CutRow (w9.alloc (Obj.cells #[Value.int IntKind.u16 1] 46)) (Value.slice (some { block := w9.heap.size, off := 0 }) 1 1) [1] := by
    refine ⟨_, 1, rfl, by decide, fun _ => ⟨_, rfl, fun j hj => ?_⟩⟩
    have : j = 0 := by simpa using hj
    subst this
    exact ⟨World.news_of_block (heap_alloc_new w9 _) 0 _ rfl, by decide⟩
  refine (now_crash (Q := fun B => B.down = false ∧ ∃ f, B.names [102] = some f ∧ (B.file f).1 = [97, 98, 99]) (H79.out.beside hb910) (Nat.le_trans HB9.out.size hb910.size) _ _ [1] (by decide) (by decide) ⟨none, 0, 0, rfl, by decide, fun h => absurd h (by decide)⟩ hcr (by
    intro B hB ts m F hk
    obtain ⟨g, hg, hF⟩ := hB.crash hk
    exact ⟨rfl, g, hg, by show (F g).1 = _; rw [hF]; rfl⟩)).mono ?_
  rintro e w11 ⟨o2, rfl, h11, hb11⟩
  have H11 := Aside0.mk h11
  have hB911 := hb910.trans (hb11.mono hb910.size)
  have HB911 := Aside0.mk hB911
  clear h11 hb11 hcr hb910 hB911
  go_wp2_with fail
  refine (now_read H11.out ⟨#[102]⟩ (by decide) (by decide) [97, 98, 99] (fun B hB => hB)).mono ?_
  rintro e w12 ⟨v12, rfl, ho12, hb12⟩
  have hB912 := HB911.out.trans (hb12.mono HB911.out.size)
  have hs1 := own_string (P := Try.prog) (src := 31) (dst := 9) (e := 5) Try.underlying31 Try.underlying5 Try.underlying9 ho12
  have hs2 := own_string (P := Try.prog) (src := 31) (dst := 9) (e := 5) Try.underlying31 Try.underlying5 Try.underlying9 (own_beside HO9.out hB912)
  have HB12 := Aside0.mk (HB9.out.trans (hB912.mono HB9.out.size))
  clear ho12 hb12 hB912
  have es1 : strOfNums (ints [97, 98, 99]) = ⟨#[97, 98, 99]⟩ := by decide
  rw [es1] at hs1
  have es2 : strOfNums (ints [97, 98]) = ⟨#[97, 98]⟩ := by decide
  rw [es2] at hs2
  go_wp2
  go_ret
  exact ⟨rfl, HB12.out⟩

end Go.Proofs.Ytolpgajodhondaa
