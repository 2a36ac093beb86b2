/- A step on both disks: a file taken away, renamed. -/
import Derived.Test.YtolpgajodhondaaR11
namespace Go.Proofs.Ytolpgajodhondaa
open Go.RowKit Go.Maps Go.Sort Go.WideMaps Go.Proofs.YtolpgajodhondaaW.PrintWords

set_option maxHeartbeats 4000000 in
set_option maxRecDepth 100000 in
/-- Remove. -/
theorem do_3 (w : World) (Sd Sq : Nat → Prop) (d q N L : Nat) (A : Disk) (a b : ByteArray) (n : Int) (A1 A2 : Option Addr) (n1 c1 n2 c2 : Nat) (ha : a.size ≤ maxLen) (hN : N ≤ 1000000) (h : Two w Sd Sq d q N L A) :
    Calls Try.prog 13 #[.pointer (some ⟨d, 0, none⟩), .pointer (some ⟨q, 0, none⟩), .agg #[.int .i64 3, .string a, .string b, .int .i64 n, .slice A1 n1 c1, .slice A2 n2 c2]] w (DoPost w Sd Sq d q N L A 3 a b n) := by
  have hW : ∃ W, W = w.alloc (opCells 3 a b n A1 A2 n1 c1 n2 c2) := ⟨_, rfl⟩
  obtain ⟨W, hW⟩ := hW
  have hb : Below w.heap.size w W := hW ▸ (Below.refl _ _).alloc (Nat.le_refl _) _
  have hblk : W.heap[w.heap.size]? = some (.cells #[.int .i64 3, .string a, .string b, .int .i64 n, .slice A1 n1 c1, .slice A2 n2 c2] 38 (0, 0)) := hW ▸ heap_alloc_new w _
  have ob1 : W.cell? ⟨w.heap.size, 1, none⟩ = some (.string a) := blk_cell hblk 1
  have HBLK := Aside0.mk hblk
  have HB := Aside0.mk hb
  have H := Aside0.mk h
  have HW := Aside0.mk (h.beside hb)
  obtain ⟨nb, sb, hd⟩ := HW.out.disk
  have HD := Aside0.mk hd
  have hnd : ¬ Sd w.heap.size := fun hs => by have := h.low _ (.inl hs); omega
  have hnq : ¬ Sq w.heap.size := fun hs => by have := h.low _ (.inr hs); omega
  have hlt : w.heap.size < W.heap.size := blk_lt hblk
  have HND := Aside0.mk (And.intro hnd (And.intro hnq hlt))
  have HWW := Aside0.mk hW
  clear h hb hd hblk hnd hnq hlt hW
  go_enter Try.func13, Try.ntmps13
  go_upto_region 9 with fail
  rw [← HWW.out]
  go_region_held3 (fun W' => W'.cell? ⟨w.heap.size, 1, none⟩ = some (.string a)) (first | exact ob1 | exact s1 | exact s2)
    (first
      | (go_at_call 21
         refine (at_remove W.drew Sd d nb sb N L A a ha (HD.out.keep (fun _ _ _ => rfl) (fun _ h => h))).mono ?_
         rintro e w1 ⟨nb', sb', A', r, rfl, hx, hd1, hk1⟩
         have hk1' : Keeps Sd W w1 := ((Keeps.refl Sd W).drewN 1).trans hk1 (fun i hi => .inl hi)
         have s1 : w1.cell? ⟨w.heap.size, 1, none⟩ = some (.string a) := (World.cell?_of_block (a := ⟨w.heap.size, 1, none⟩) (hk1'.block _ HND.out.2.2 HND.out.1)).trans ob1
         have HX := Aside0.mk hx
         have HD1 := Aside0.mk hd1
         have HK1 := Aside0.mk hk1'
         clear hx hd1 hk1 hk1')
      | (go_at_call 31
         refine (ref_remove _ Sq q N L a ha (by unfold maxLen; omega) (H.out.other HB.out HK1.out)).mono ?_
         rintro e w2 ⟨r2, rfl, hq2, hk2⟩
         have s2 : w2.cell? ⟨w.heap.size, 1, none⟩ = some (.string a) := (World.cell?_of_block (a := ⟨w.heap.size, 1, none⟩) (hk2.block _ (Nat.lt_of_lt_of_le HND.out.2.2 HK1.out.size) HND.out.2.1)).trans s1
         have HQ2 := Aside0.mk hq2
         have HK2 := Aside0.mk hk2
         clear hq2 hk2))
  go_wp2
  go_ret2
  obtain ⟨Sd', Sq', h2, hg⟩ := H.out.after HB.out ((HD1.out.keep (fun _ _ _ => rfl) (fun _ h => h) : DiskIn w1 (more Sd W) d nb' sb' N L A').mono (Nat.le_succ N) (Nat.le_add_right L b.data.toList.length)) HK1.out (HQ2.out.mono (Nat.le_succ N) (Nat.le_add_right L b.data.toList.length)) HK2.out
  exact ⟨r, r2, A', Sd', Sq', rfl, .inr (.inr (.inr (.inl ⟨rfl, HX.out⟩))), h2, hg⟩

set_option maxHeartbeats 4000000 in
set_option maxRecDepth 100000 in
/-- Rename. -/
theorem do_2 (w : World) (Sd Sq : Nat → Prop) (d q N L : Nat) (A : Disk) (a b : ByteArray) (n : Int) (A1 A2 : Option Addr) (n1 c1 n2 c2 : Nat) (ha : a.size ≤ maxLen) (hb' : b.size ≤ maxLen) (hN : N ≤ 1000000) (h : Two w Sd Sq d q N L A) :
    Calls Try.prog 13 #[.pointer (some ⟨d, 0, none⟩), .pointer (some ⟨q, 0, none⟩), .agg #[.int .i64 2, .string a, .string b, .int .i64 n, .slice A1 n1 c1, .slice A2 n2 c2]] w (DoPost w Sd Sq d q N L A 2 a b n) := by
  have hW : ∃ W, W = w.alloc (opCells 2 a b n A1 A2 n1 c1 n2 c2) := ⟨_, rfl⟩
  obtain ⟨W, hW⟩ := hW
  have hb : Below w.heap.size w W := hW ▸ (Below.refl _ _).alloc (Nat.le_refl _) _
  have hblk : W.heap[w.heap.size]? = some (.cells #[.int .i64 2, .string a, .string b, .int .i64 n, .slice A1 n1 c1, .slice A2 n2 c2] 38 (0, 0)) := hW ▸ heap_alloc_new w _
  have ob1 : W.cell? ⟨w.heap.size, 1, none⟩ = some (.string a) := blk_cell hblk 1
  have ob2 : W.cell? ⟨w.heap.size, 2, none⟩ = some (.string b) := blk_cell hblk 2
  have HBLK := Aside0.mk hblk
  have HB := Aside0.mk hb
  have H := Aside0.mk h
  have HW := Aside0.mk (h.beside hb)
  obtain ⟨nb, sb, hd⟩ := HW.out.disk
  have HD := Aside0.mk hd
  have hnd : ¬ Sd w.heap.size := fun hs => by have := h.low _ (.inl hs); omega
  have hnq : ¬ Sq w.heap.size := fun hs => by have := h.low _ (.inr hs); omega
  have hlt : w.heap.size < W.heap.size := blk_lt hblk
  have HND := Aside0.mk (And.intro hnd (And.intro hnq hlt))
  have HWW := Aside0.mk hW
  clear h hb hd hblk hnd hnq hlt hW
  go_enter Try.func13, Try.ntmps13
  go_upto_region 7 with fail
  rw [← HWW.out]
  go_region_held3 (fun W' => W'.cell? ⟨w.heap.size, 1, none⟩ = some (.string a) ∧ W'.cell? ⟨w.heap.size, 2, none⟩ = some (.string b)) (first | exact ⟨ob1, ob2⟩ | exact ⟨s1, t1⟩ | exact ⟨s2, t2⟩)
    (first
      | (go_at_call 20
         refine (at_rename W.drew Sd d nb sb N L A a b ha hb' (by unfold maxLen; omega) (HD.out.keep (fun _ _ _ => rfl) (fun _ h => h))).mono ?_
         rintro e w1 ⟨nb', sb', A', r, rfl, hx, hd1, hk1⟩
         have hk1' : Keeps Sd W w1 := ((Keeps.refl Sd W).drewN 1).trans hk1 (fun i hi => .inl hi)
         have s1 : w1.cell? ⟨w.heap.size, 1, none⟩ = some (.string a) := (World.cell?_of_block (a := ⟨w.heap.size, 1, none⟩) (hk1'.block _ HND.out.2.2 HND.out.1)).trans ob1
         have t1 : w1.cell? ⟨w.heap.size, 2, none⟩ = some (.string b) := (World.cell?_of_block (a := ⟨w.heap.size, 2, none⟩) (hk1'.block _ HND.out.2.2 HND.out.1)).trans ob2
         have HX := Aside0.mk hx
         have HD1 := Aside0.mk hd1
         have HK1 := Aside0.mk hk1'
         clear hx hd1 hk1 hk1')
      | (go_at_call 30
         refine (ref_rename _ Sq q N L a b ha hb' (by unfold maxLen; omega) (H.out.other HB.out HK1.out)).mono ?_
         rintro e w2 ⟨r2, rfl, hq2, hk2⟩
         have s2 : w2.cell? ⟨w.heap.size, 1, none⟩ = some (.string a) := (World.cell?_of_block (a := ⟨w.heap.size, 1, none⟩) (hk2.block _ (Nat.lt_of_lt_of_le HND.out.2.2 HK1.out.size) HND.out.2.1)).trans s1
         have t2 : w2.cell? ⟨w.heap.size, 2, none⟩ = some (.string b) := (World.cell?_of_block (a := ⟨w.heap.size, 2, none⟩) (hk2.block _ (Nat.lt_of_lt_of_le HND.out.2.2 HK1.out.size) HND.out.2.1)).trans t1
         have HQ2 := Aside0.mk hq2
         have HK2 := Aside0.mk hk2
         clear hq2 hk2))
  go_wp2
  go_ret2
  obtain ⟨Sd', Sq', h2, hg⟩ := H.out.after HB.out ((HD1.out.keep (fun _ _ _ => rfl) (fun _ h => h) : DiskIn w1 (more Sd W) d nb' sb' (N + 1) L A').mono (Nat.le_refl _) (Nat.le_add_right L b.data.toList.length)) HK1.out (HQ2.out.mono (Nat.le_refl _) (Nat.le_add_right L b.data.toList.length)) HK2.out
  exact ⟨r, r2, A', Sd', Sq', rfl, .inr (.inr (.inl ⟨rfl, HX.out⟩)), h2, hg⟩

end Go.Proofs.Ytolpgajodhondaa
