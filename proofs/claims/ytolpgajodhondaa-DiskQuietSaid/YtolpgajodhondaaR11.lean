/- A step on both disks. -/
import Derived.Test.YtolpgajodhondaaR10
namespace Go.Proofs.Ytolpgajodhondaa
open Go.RowKit Go.Maps Go.Sort Go.WideMaps Go.Proofs.YtolpgajodhondaaW.PrintWords

/-- What a call on the disk comes to: some pair of an answer and a disk that X lets by. -/
def OpPost (w : World) (S : Nat → Prop) (d N L : Nat) (X : Disk × Int → Prop) (e : Ending) (w' : World) : Prop :=
  ∃ nb sb A' r, e = .returned (.int .i64 r) ∧ X (A', r) ∧ DiskIn w' (more S w) d nb sb N L A' ∧ Keeps S w w'

section
variable (w : World) (S : Nat → Prop) (d nb sb N L : Nat) (A : Disk)
theorem at_syncNames (h : DiskIn w S d nb sb N L A) : Calls Try.prog 10 #[.pointer (some ⟨d, 0, none⟩)] w (OpPost w S d N L (fun x => x = A.syncNames)) :=
  (syncNames_any w S d nb sb N L A h).mono fun _ _ ⟨sb', he, h1, h2⟩ => ⟨nb, sb', _, _, he, rfl, h1, h2⟩

theorem at_sync (s : ByteArray) (hs : s.size ≤ maxLen) (h : DiskIn w S d nb sb N L A) : Calls Try.prog 9 #[.pointer (some ⟨d, 0, none⟩), .string s] w (OpPost w S d N L (fun x => x = A.sync s.data.toList)) :=
  (sync_any w S d nb sb N L A s hs h).mono fun _ _ ⟨he, h1, h2, _⟩ => ⟨nb, sb, _, _, he, rfl, more_keep h1, h2⟩

theorem at_remove (s : ByteArray) (hs : s.size ≤ maxLen) (h : DiskIn w S d nb sb N L A) : Calls Try.prog 21 #[.pointer (some ⟨d, 0, none⟩), .string s] w (OpPost w S d N L (fun x => x = A.remove s.data.toList)) :=
  (remove_any w S d nb sb N L A s hs h).mono fun _ _ ⟨he, h1, h2, _⟩ => ⟨nb, sb, _, _, he, rfl, more_keep h1, h2⟩

theorem at_rename (s t : ByteArray) (hs : s.size ≤ maxLen) (ht : t.size ≤ maxLen) (hN : N < maxLen) (h : DiskIn w S d nb sb N L A) : Calls Try.prog 20 #[.pointer (some ⟨d, 0, none⟩), .string s, .string t] w (OpPost w S d (N + 1) L (fun x => ∃ ok, x = if A.step.2 ≠ 0 then A.step else A.step.1.rename1 ok s.data.toList t.data.toList)) :=
  (rename_any w S d nb sb N L A s t hs ht hN h).mono fun _ _ ⟨ok, he, h1, h2⟩ => ⟨nb, sb, _, _, he, ⟨ok, rfl⟩, more_keep h1, h2⟩

theorem at_append (s : ByteArray) (b : List UInt8) (P : Option Addr) (c : Nat) (hs : s.size ≤ maxLen) (hN : N < maxLen) (hNL : N * L ≤ 4611686018427387903) (hL : L + b.length ≤ 1152921504606) (hr : ReadsInt w .u8 P b.length (ints b)) (hPS : ∀ a, P = some a → ¬ S a.block) (h : DiskIn w S d nb sb N L A) :
    Calls Try.prog 8 #[.pointer (some ⟨d, 0, none⟩), .string s, .slice P b.length c] w (OpPost w S d (N + 1) (L + b.length) (fun x => ∃ ok full g, (plain s = true → ok = true) ∧ (((N * L + b.length : Nat) : Int) ≤ A.step.1.room → N < 256 → full = false) ∧ w.heap.size ≤ g ∧ x = if A.step.2 ≠ 0 then A.step else A.step.1.append1 ok full g s.data.toList b)) :=
  (append_any w S d nb sb N L A s b P c hs hN hNL hL hr hPS h).mono fun _ _ ⟨ok, full, g, h1, h2, h3, he, h4, h5⟩ => ⟨nb, sb, _, _, he, ⟨ok, full, g, h1, h2, h3, rfl⟩, h4, h5⟩
end

set_option maxHeartbeats 4000000 in
set_option maxRecDepth 100000 in
/-- SyncNames. -/
theorem do_4 (w : World) (Sd Sq : Nat → Prop) (d q N L : Nat) (A : Disk) (a b : ByteArray) (n : Int) (vk vc : Value) (A1 A2 : Option Addr) (n1 c1 n2 c2 : Nat) (hk : vk = .slice A1 n1 c1) (hc : vc = .slice A2 n2 c2) (hN : N ≤ 1000000) (h : Two w Sd Sq d q N L A) :
    Calls Try.prog 13 #[.pointer (some ⟨d, 0, none⟩), .pointer (some ⟨q, 0, none⟩), .agg #[.int .i64 4, .string a, .string b, .int .i64 n, vk, vc]] w (DoPost w Sd Sq d q N L A 4 a b n) := by
  subst hk hc
  have hb : Below w.heap.size w (w.alloc (Obj.cells #[Value.int IntKind.i64 4, Value.string a, Value.string b, Value.int IntKind.i64 n, Value.slice A1 n1 c1, Value.slice A2 n2 c2] 38)) := (Below.refl _ _).alloc (Nat.le_refl _) _
  have HB := Aside0.mk hb
  have H := Aside0.mk h
  have HW := Aside0.mk (h.beside hb)
  obtain ⟨nb, sb, hd⟩ := HW.out.disk
  have HD := Aside0.mk hd
  clear h hb hd
  go_enter Try.func13, Try.ntmps13
  go_wp2_with fail
  refine (at_syncNames _ Sd d nb sb N L A HD.out).mono ?_
  rintro e w1 ⟨nb', sb', A', r, rfl, hx, hd1, hk1⟩
  have HX := Aside0.mk hx
  clear hx
  have HD1 := Aside0.mk hd1
  have HK1 := Aside0.mk hk1
  clear hd1 hk1
  go_wp2_with fail
  refine (ref_syncNames w1 Sq q N L (by unfold maxLen; omega) (H.out.other HB.out HK1.out)).mono ?_
  rintro e w2 ⟨r2, rfl, hq2, hk2⟩
  have HQ2 := Aside0.mk hq2
  have HK2 := Aside0.mk hk2
  clear hq2 hk2
  go_wp2
  go_ret2
  obtain ⟨Sd', Sq', h2, hg⟩ := H.out.after HB.out (HD1.out.mono (Nat.le_succ N) (Nat.le_add_right L b.data.toList.length)) HK1.out (HQ2.out.mono (Nat.le_succ N) (Nat.le_add_right L b.data.toList.length)) HK2.out
  exact ⟨r, r2, A', Sd', Sq', rfl, .inr (.inr (.inr (.inr (.inl ⟨rfl, HX.out⟩)))), h2, hg⟩

abbrev opCells (k : Int) (a b : ByteArray) (n : Int) (A1 A2 : Option Addr) (n1 c1 n2 c2 : Nat) : Obj := .cells #[.int .i64 k, .string a, .string b, .int .i64 n, .slice A1 n1 c1, .slice A2 n2 c2] 38

set_option maxHeartbeats 4000000 in
set_option maxRecDepth 100000 in
/-- Sync. -/
theorem do_1 (w : World) (Sd Sq : Nat → Prop) (d q N L : Nat) (A : Disk) (a b : ByteArray) (n : Int) (A1 A2 : Option Addr) (n1 c1 n2 c2 : Nat) (ha : a.size ≤ maxLen) (h : Two w Sd Sq d q N L A) :
    Calls Try.prog 13 #[.pointer (some ⟨d, 0, none⟩), .pointer (some ⟨q, 0, none⟩), .agg #[.int .i64 1, .string a, .string b, .int .i64 n, .slice A1 n1 c1, .slice A2 n2 c2]] w (DoPost w Sd Sq d q N L A 1 a b n) := by
  have hW : ∃ W, W = w.alloc (opCells 1 a b n A1 A2 n1 c1 n2 c2) := ⟨_, rfl⟩
  obtain ⟨W, hW⟩ := hW
  have hb : Below w.heap.size w W := hW ▸ (Below.refl _ _).alloc (Nat.le_refl _) _
  have hblk : W.heap[w.heap.size]? = some (.cells #[.int .i64 1, .string a, .string b, .int .i64 n, .slice A1 n1 c1, .slice A2 n2 c2] 38 (0, 0)) := hW ▸ heap_alloc_new w _
  have ob1 : W.cell? ⟨w.heap.size, 1, none⟩ = some (.string a) := blk_cell hblk 1
  have HBLK := Aside0.mk hblk
  have HB := Aside0.mk hb
  have H := Aside0.mk h
  have HW := Aside0.mk (h.beside hb)
  obtain ⟨nb, sb, hd⟩ := HW.out.disk
  have HD := Aside0.mk hd
  have hnd : ¬ Sd w.heap.size := fun hs => by have := h.low _ (.inl hs); omega
  have hnq : ¬ Sq w.heap.size := fun hs => by have := h.low _ (.inr hs); omega
  have hlt : w.heap.size < W.heap.size := blk_lt hblk
  have HND := Aside0.mk (And.intro hnd (And.intro hnq hlt))
  have HWW := Aside0.mk hW
  clear h hb hd hblk hnd hnq hlt hW
  go_enter Try.func13, Try.ntmps13
  go_upto_region 5 with fail
  rw [← HWW.out]
  go_region_held3 (fun W' => W'.cell? ⟨w.heap.size, 1, none⟩ = some (.string a)) (first | exact ob1 | exact s1 | exact s2)
    (first
      | (go_at_call 9
         refine (at_sync W.drew Sd d nb sb N L A a ha (HD.out.keep (fun _ _ _ => rfl) (fun _ h => h))).mono ?_
         rintro e w1 ⟨nb', sb', A', r, rfl, hx, hd1, hk1⟩
         have hk1' : Keeps Sd W w1 := ((Keeps.refl Sd W).drewN 1).trans hk1 (fun i hi => .inl hi)
         have s1 : w1.cell? ⟨w.heap.size, 1, none⟩ = some (.string a) := (World.cell?_of_block (a := ⟨w.heap.size, 1, none⟩) (hk1'.block _ HND.out.2.2 HND.out.1)).trans ob1
         have HX := Aside0.mk hx
         have HD1 := Aside0.mk hd1
         have HK1 := Aside0.mk hk1'
         clear hx hd1 hk1 hk1')
      | (go_at_call 29
         refine (ref_sync _ Sq q N L a ha (H.out.other HB.out HK1.out)).mono ?_
         rintro e w2 ⟨r2, rfl, hq2, hk2⟩
         have s2 : w2.cell? ⟨w.heap.size, 1, none⟩ = some (.string a) := (World.cell?_of_block (a := ⟨w.heap.size, 1, none⟩) (hk2.block _ (Nat.lt_of_lt_of_le HND.out.2.2 HK1.out.size) HND.out.2.1)).trans s1
         have HQ2 := Aside0.mk hq2
         have HK2 := Aside0.mk hk2
         clear hq2 hk2))
  go_wp2
  go_ret2
  obtain ⟨Sd', Sq', h2, hg⟩ := H.out.after HB.out ((HD1.out.keep (fun _ _ _ => rfl) (fun _ h => h) : DiskIn w1 (more Sd W) d nb' sb' N L A').mono (Nat.le_succ N) (Nat.le_add_right L b.data.toList.length)) HK1.out (HQ2.out.mono (Nat.le_succ N) (Nat.le_add_right L b.data.toList.length)) HK2.out
  exact ⟨r, r2, A', Sd', Sq', rfl, .inr (.inl ⟨rfl, HX.out⟩), h2, hg⟩

end Go.Proofs.Ytolpgajodhondaa
