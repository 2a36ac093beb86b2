/- A step on both disks: the fuse. -/
import Derived.Test.YtolpgajodhondaaR12
namespace Go.Proofs.Ytolpgajodhondaa
open Go.RowKit Go.Maps Go.Sort Go.WideMaps Go.Proofs.YtolpgajodhondaaW.PrintWords

set_option maxHeartbeats 4000000 in
set_option maxRecDepth 100000 in
/-- Fuse. -/
theorem do_5 (w : World) (Sd Sq : Nat → Prop) (d q N L : Nat) (A : Disk) (a b : ByteArray) (n : Int) (A1 A2 : Option Addr) (n1 c1 n2 c2 : Nat) (h : Two w Sd Sq d q N L A) :
    Calls Try.prog 13 #[.pointer (some ⟨d, 0, none⟩), .pointer (some ⟨q, 0, none⟩), .agg #[.int .i64 5, .string a, .string b, .int .i64 n, .slice A1 n1 c1, .slice A2 n2 c2]] w (DoPost w Sd Sq d q N L A 5 a b n) := by
  have hW : ∃ W, W = w.alloc (opCells 5 a b n A1 A2 n1 c1 n2 c2) := ⟨_, rfl⟩
  obtain ⟨W, hW⟩ := hW
  have hb : Below w.heap.size w W := hW ▸ (Below.refl _ _).alloc (Nat.le_refl _) _
  have hblk : W.heap[w.heap.size]? = some (.cells #[.int .i64 5, .string a, .string b, .int .i64 n, .slice A1 n1 c1, .slice A2 n2 c2] 38 (0, 0)) := hW ▸ heap_alloc_new w _
  have ob3 : W.cell? ⟨w.heap.size, 3, none⟩ = some (.int .i64 n) := blk_cell hblk 3
  have HB := Aside0.mk hb
  have H := Aside0.mk h
  obtain ⟨nb, sb, hd⟩ := (h.beside hb).disk
  have HD := Aside0.mk hd
  have hnd : ¬ Sd w.heap.size := fun hs => by have := h.low _ (.inl hs); omega
  have hlt : w.heap.size < W.heap.size := blk_lt hblk
  have HND := Aside0.mk (And.intro hnd hlt)
  have HWW := Aside0.mk hW
  clear h hb hd hblk hnd hlt hW
  go_enter Try.func13, Try.ntmps13
  go_upto_region 13 with fail
  rw [← HWW.out]
  go_wp2_with fail
  refine (fuse_any W Sd d nb sb N L A n HD.out).mono ?_
  rintro e w1 ⟨rfl, hd1, hk1, hsz⟩
  have s3 : w1.cell? ⟨w.heap.size, 3, none⟩ = some (.int .i64 n) := (World.cell?_of_block (a := ⟨w.heap.size, 3, none⟩) (hk1.block _ HND.out.2 HND.out.1)).trans ob3
  obtain ⟨R, hR⟩ := H.out.other HB.out hk1
  have HR := Aside0.mk hR
  have c4 : w1.cell? ⟨q, 4, none⟩ = some (.int .i64 R.fuse) := hR.cells.1 4
  have f4 := hR.cells.2 4
  have HD1 := Aside0.mk hd1
  have HK1 := Aside0.mk hk1
  clear hd1 hk1 hsz hR ob3
  go_wp2
  go_ret2
  have hq2 : RefIn (w1.setCell ⟨q, 4, none⟩ (.int .i64 n)) (more Sq w1) q N L := ⟨{ R with fuse := n }, (HR.out.own (R' := { R with fuse := n }) (blk_put HR.out.blk 4 _ rfl) (fun k hk _ => Below.heap_setCell _ _ _ _ hk) rfl rfl rfl HR.out.vS).more⟩
  have hk2 : Keeps Sq w1 (w1.setCell ⟨q, 4, none⟩ (.int .i64 n)) := (Keeps.refl _ _).setCell (.inl HR.out.sq) _
  obtain ⟨Sd', Sq', h2, hg⟩ := H.out.after HB.out ((more_keep (w := W) HD1.out).mono (Nat.le_succ N) (Nat.le_add_right L b.data.toList.length)) HK1.out (hq2.mono (Nat.le_succ N) (Nat.le_add_right L b.data.toList.length)) hk2
  exact ⟨0, 0, _, Sd', Sq', rfl, .inr (.inr (.inr (.inr (.inr (.inl ⟨rfl, rfl⟩))))), h2, hg⟩

set_option maxHeartbeats 4000000 in
set_option maxRecDepth 100000 in
/-- Any other kind: nothing. -/
theorem do_x (w : World) (Sd Sq : Nat → Prop) (d q N L : Nat) (A : Disk) (k : Int) (a b : ByteArray) (n : Int) (A1 A2 : Option Addr) (n1 c1 n2 c2 : Nat) (hk : k < 0 ∨ 5 < k) (h : Two w Sd Sq d q N L A) :
    Calls Try.prog 13 #[.pointer (some ⟨d, 0, none⟩), .pointer (some ⟨q, 0, none⟩), .agg #[.int .i64 k, .string a, .string b, .int .i64 n, .slice A1 n1 c1, .slice A2 n2 c2]] w (DoPost w Sd Sq d q N L A k a b n) := by
  have b0 : (k == 0) = false := beq_eq_false_iff_ne.2 (by omega)
  have b1 : (k == 1) = false := beq_eq_false_iff_ne.2 (by omega)
  have b2 : (k == 2) = false := beq_eq_false_iff_ne.2 (by omega)
  have b3 : (k == 3) = false := beq_eq_false_iff_ne.2 (by omega)
  have b4 : (k == 4) = false := beq_eq_false_iff_ne.2 (by omega)
  have b5 : (k == 5) = false := beq_eq_false_iff_ne.2 (by omega)
  have HK := Aside0.mk hk
  have H := Aside0.mk h
  clear hk h
  go_enter Try.func13, Try.ntmps13
  go_wp2
  go_ret2
  have hb : Below w.heap.size w (w.alloc (opCells k a b n A1 A2 n1 c1 n2 c2)) := (Below.refl _ _).alloc (Nat.le_refl _) _
  obtain ⟨⟨nb, sb, h1⟩, h2, h3, h4⟩ := H.out.beside hb
  exact ⟨0, 0, A, Sd, Sq, rfl, .inr (.inr (.inr (.inr (.inr (.inr ⟨HK.out, rfl⟩))))), ⟨⟨nb, sb, h1.mono (Nat.le_succ N) (Nat.le_add_right L b.data.toList.length)⟩, h2.mono (Nat.le_succ N) (Nat.le_add_right L b.data.toList.length), h3, h4⟩, Keeps.of_new hb, fun _ hk => .inl hk, fun _ hk => .inl hk⟩

end Go.Proofs.Ytolpgajodhondaa
