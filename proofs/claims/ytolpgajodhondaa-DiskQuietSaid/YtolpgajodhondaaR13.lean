/- A step on both disks: bytes put behind a file's. -/
import Derived.Test.YtolpgajodhondaaR12
namespace Go.Proofs.Ytolpgajodhondaa
open Go.RowKit Go.Maps Go.Sort Go.WideMaps Go.Proofs.YtolpgajodhondaaW.PrintWords

theorem bytesOf_ints (b : ByteArray) : bytesOf b = ints b.data.toList := rfl

section
variable {P : Program} {l : List Oper} {Q : Exit → Act → World → Prop} {md : Region.Mode} {S : World → Prop}
theorem take_l {i : Nat} {oi : Oper} {v : Value} {fuel : Nat} {listed : Array Bool} {a : Act} {w : World} (hi : l[i]? = some oi)
    (hs : Region.noSelect l.toArray = true) (hf : Region.free md l.toArray listed i = true) (hr : (Region.ready md l.toArray listed).contains i = true)
    (hQ : ∀ c a w, Q (.panic c) (a.put oi.dst v) w → Q (.panic c) a w) (hy : YieldsIf P l.toArray S oi v a) (hS : S w)
    (h : wpAnyH P md l.toArray Q S fuel (listed.setIfInBounds i true) (a.put oi.dst v) w) : wpAnyH P md l.toArray Q S (fuel + 1) listed a w :=
  wpAnyH_take (by simpa using hi) hs hf hr hQ hy hS h
theorem cons_l {fuel : Nat} {listed : Array Bool} {a : Act} {w : World} {i : Nat} {o : Oper} {rs : List Nat} (ho : l[i]? = some o)
    (h : ∀ K' : Act → World → Prop, Shut (∀ a w, S w → (S w → wpAnyH P md l.toArray Q S fuel (listed.setIfInBounds i true) a w) → K' a w) → if Region.wanted o (yielded l.toArray a.tmps) = true then Oper.wp P o a w K' Q else K' (a.put o.dst undef) w)
    (hs : AllReadyH P md l.toArray Q S fuel listed a w rs) : AllReadyH P md l.toArray Q S fuel listed a w (i :: rs) :=
  AllReadyH.cons (by simpa using ho) h hs
end

set_option maxHeartbeats 4000000 in
set_option maxRecDepth 100000 in
/-- Append. -/
theorem do_0 (w : World) (Sd Sq : Nat → Prop) (d q N L : Nat) (A : Disk) (a b : ByteArray) (n : Int) (A1 A2 : Option Addr) (n1 c1 n2 c2 : Nat) (ha : a.size ≤ maxLen) (hb' : b.size ≤ 1000000) (hN : N ≤ 1000000) (hL : L ≤ 1000000) (h : Two w Sd Sq d q N L A) :
    Calls Try.prog 13 #[.pointer (some ⟨d, 0, none⟩), .pointer (some ⟨q, 0, none⟩), .agg #[.int .i64 0, .string a, .string b, .int .i64 n, .slice A1 n1 c1, .slice A2 n2 c2]] w (DoPost w Sd Sq d q N L A 0 a b n) := by
  have hW : ∃ W, W = w.alloc (opCells 0 a b n A1 A2 n1 c1 n2 c2) := ⟨_, rfl⟩
  obtain ⟨W, hW⟩ := hW
  have hb : Below w.heap.size w W := hW ▸ (Below.refl _ _).alloc (Nat.le_refl _) _
  have hblk : W.heap[w.heap.size]? = some (.cells #[.int .i64 0, .string a, .string b, .int .i64 n, .slice A1 n1 c1, .slice A2 n2 c2] 38 (0, 0)) := hW ▸ heap_alloc_new w _
  have ob1 : W.cell? ⟨w.heap.size, 1, none⟩ = some (.string a) := blk_cell hblk 1
  have ob2 : W.cell? ⟨w.heap.size, 2, none⟩ = some (.string b) := blk_cell hblk 2
  have HBLK := Aside0.mk hblk
  have H := Aside0.mk h
  have hlt : w.heap.size < W.heap.size := blk_lt hblk
  have kb := fun W => print_bytes (P := Try.prog) 9 31 5 Try.underlying9 Try.underlying31 Try.underlying5 b W
  have hbW : Below W.heap.size W (Lib.bytesWorld W.drew 5 b) := bytes_below (Below.refl W.heap.size W).drew (Nat.le_refl _) 5 b
  have u1 : (Lib.bytesWorld W.drew 5 b).cell? ⟨w.heap.size, 1, none⟩ = some (.string a) := (hbW.cell hlt).trans ob1
  have u2 : (Lib.bytesWorld W.drew 5 b).cell? ⟨w.heap.size, 2, none⟩ = some (.string b) := (hbW.cell hlt).trans ob2
  have hbB : Below w.heap.size w (Lib.bytesWorld W.drew 5 b) := hb.trans (hbW.mono hb.size)
  have HB := Aside0.mk hbB
  have HBW := Aside0.mk hbW
  have hr := bytes_reads W.drew 5 b (by omega)
  rw [bytesOf_ints] at hr
  have HR := Aside0.mk hr
  have hWs : W.heap.size ≤ (Lib.bytesWorld W.drew 5 b).heap.size := hbW.size
  obtain ⟨nb, sb, hd⟩ := (h.beside hbB).disk
  have HD := Aside0.mk hd
  have hnd : ∀ k, w.heap.size ≤ k → ¬ Sd k := fun k hk hs => by have := h.low _ (.inl hs); omega
  have hnq : ¬ Sq w.heap.size := fun hs => by have := h.low _ (.inr hs); omega
  have HND := Aside0.mk (And.intro hnd (And.intro hnq hlt))
  have HWW := Aside0.mk hW
  have hNL : N * L ≤ 1000000000000 := Nat.mul_le_mul hN hL
  have HNL := Aside0.mk hNL
  clear h hb hd hblk hnd hnq hlt hW hbB hbW hr hWs hNL
  go_enter Try.func13, Try.ntmps13
  go_upto_region 3 with fail
  rw [← HWW.out]
  refine wp_region_held_drew (S := (fun W' => W'.cell? ⟨w.heap.size, 1, none⟩ = some (.string a) ∧ W'.cell? ⟨w.heap.size, 2, none⟩ = some (.string b))) (by kernel_rfl) ⟨ob1, ob2⟩ (fun hHeld => ?_)
  refine take_l (i := 0) (v := ?v0) rfl (by kernel_rfl) (by kernel_rfl) (by kernel_rfl) (fun _ _ _ h => h) (Or.inl ⟨by rfl, ?hy0⟩) (by assumption) ?rest0
  case hy0 => (intro w hSw; (try dsimp only at hSw); go_simp; try with_reducible rfl)
  (try simp only [Act.put, List.setIfInBounds_toArray, List.set_cons_zero, List.set_cons_succ])
  refine take_l (i := 1) (v := ?v1) rfl (by kernel_rfl) (by kernel_rfl) (by kernel_rfl) (fun _ _ _ h => h) (Or.inl ⟨by rfl, ?hy1⟩) (by assumption) ?rest1
  case hy1 => (intro w hSw; (try dsimp only at hSw); go_simp; try with_reducible rfl)
  (try simp only [Act.put, List.setIfInBounds_toArray, List.set_cons_zero, List.set_cons_succ])
  refine take_l (i := 2) (v := ?v2) rfl (by kernel_rfl) (by kernel_rfl) (by kernel_rfl) (fun _ _ _ h => h) (Or.inl ⟨by rfl, ?hy2⟩) (by assumption) ?rest2
  case hy2 => (intro w hSw; (try dsimp only at hSw); go_simp; try with_reducible rfl)
  (try simp only [Act.put, List.setIfInBounds_toArray, List.set_cons_zero, List.set_cons_succ])
  refine take_l (i := 3) (v := ?v3) rfl (by kernel_rfl) (by kernel_rfl) (by kernel_rfl) (fun _ _ _ h => h) (Or.inl ⟨by rfl, ?hy3⟩) (by assumption) ?rest3
  case hy3 => (intro w hSw; (try dsimp only at hSw); go_simp; try with_reducible rfl)
  (try simp only [Act.put, List.setIfInBounds_toArray, List.set_cons_zero, List.set_cons_succ])
  refine take_l (i := 4) (v := ?v4) rfl (by kernel_rfl) (by kernel_rfl) (by kernel_rfl) (fun _ _ _ h => h) (Or.inl ⟨by rfl, ?hy4⟩) (by assumption) ?rest4
  case hy4 => (intro w hSw; (try dsimp only at hSw); go_simp; try with_reducible rfl)
  (try simp only [Act.put, List.setIfInBounds_toArray, List.set_cons_zero, List.set_cons_succ])
  refine take_l (i := 7) (v := ?v7) rfl (by kernel_rfl) (by kernel_rfl) (by kernel_rfl) (fun _ _ _ h => h) (Or.inl ⟨by rfl, ?hy7⟩) (by assumption) ?rest7
  case hy7 => (intro w hSw; (try dsimp only at hSw); go_simp; try with_reducible rfl)
  (try simp only [Act.put, List.setIfInBounds_toArray, List.set_cons_zero, List.set_cons_succ])
  refine take_l (i := 8) (v := ?v8) rfl (by kernel_rfl) (by kernel_rfl) (by kernel_rfl) (fun _ _ _ h => h) (Or.inl ⟨by rfl, ?hy8⟩) (by assumption) ?rest8
  case hy8 => (intro w hSw; (try dsimp only at hSw); go_simp; try with_reducible rfl)
  (try simp only [Act.put, List.setIfInBounds_toArray, List.set_cons_zero, List.set_cons_succ])
  refine take_l (i := 9) (v := ?v9) rfl (by kernel_rfl) (by kernel_rfl) (by kernel_rfl) (fun _ _ _ h => h) (Or.inl ⟨by rfl, ?hy9⟩) (by assumption) ?rest9
  case hy9 => (intro w hSw; (try dsimp only at hSw); go_simp; try with_reducible rfl)
  (try simp only [Act.put, List.setIfInBounds_toArray, List.set_cons_zero, List.set_cons_succ])
  refine take_l (i := 10) (v := ?v10) rfl (by kernel_rfl) (by kernel_rfl) (by kernel_rfl) (fun _ _ _ h => h) (Or.inl ⟨by rfl, ?hy10⟩) (by assumption) ?rest10
  case hy10 => (intro w hSw; (try dsimp only at hSw); go_simp; try with_reducible rfl)
  (try simp only [Act.put, List.setIfInBounds_toArray, List.set_cons_zero, List.set_cons_succ])
  refine take_l (i := 11) (v := ?v11) rfl (by kernel_rfl) (by kernel_rfl) (by kernel_rfl) (fun _ _ _ h => h) (Or.inl ⟨by rfl, ?hy11⟩) (by assumption) ?rest11
  case hy11 => (intro w hSw; (try dsimp only at hSw); go_simp; try with_reducible rfl)
  (try simp only [Act.put, List.setIfInBounds_toArray, List.set_cons_zero, List.set_cons_succ])
  refine wpAnyH_ready (rs := [5]) (by kernel_rfl) (by simp) ?_
  refine cons_l rfl (fun K hK => ?_) AllReadyH.nil
  go_simp
  refine hK.out _ _ ⟨u1, u2⟩ (fun hHeld => ?_)
  clear hK K
  (try simp only [Act.put, List.setIfInBounds_toArray, List.set_cons_zero, List.set_cons_succ])
  refine wpAnyH_ready (rs := [6]) (by kernel_rfl) (by simp) ?_
  refine cons_l rfl (fun K hK => ?_) AllReadyH.nil
  go_simp
  go_at_call 8
  refine (at_append (Lib.bytesWorld W.drew 5 b) Sd d nb sb N L A a b.data.toList _ _ ha (by unfold maxLen; omega) (by have := HNL.out; omega) (by show L + b.size ≤ _; omega) HR.out (fun x hx => by cases hx; exact HND.out.1 _ (Nat.le_of_lt HND.out.2.2)) HD.out).mono ?_
  rintro e w1 ⟨nb', sb', A', r, rfl, hx, hd1, hk1⟩
  have s1 : w1.cell? ⟨w.heap.size, 1, none⟩ = some (.string a) := (World.cell?_of_block (a := ⟨w.heap.size, 1, none⟩) (hk1.block _ (Nat.lt_of_lt_of_le HND.out.2.2 HBW.out.size) (HND.out.1 _ (Nat.le_refl _)))).trans u1
  have t1 : w1.cell? ⟨w.heap.size, 2, none⟩ = some (.string b) := (World.cell?_of_block (a := ⟨w.heap.size, 2, none⟩) (hk1.block _ (Nat.lt_of_lt_of_le HND.out.2.2 HBW.out.size) (HND.out.1 _ (Nat.le_refl _)))).trans u2
  have HX := Aside0.mk hx
  have HD1 := Aside0.mk hd1
  have HK1 := Aside0.mk hk1
  clear hx hd1 hk1
  refine hK.out _ _ ⟨s1, t1⟩ (fun hHeld => ?_)
  clear hK K
  (try simp only [Act.put, List.setIfInBounds_toArray, List.set_cons_zero, List.set_cons_succ])
  refine wpAnyH_ready (rs := [12]) (by kernel_rfl) (by simp) ?_
  refine cons_l rfl (fun K hK => ?_) AllReadyH.nil
  go_simp
  go_at_call 28
  refine (ref_append _ Sq q N L a b ha hN hL hb' (H.out.other HB.out HK1.out)).mono ?_
  rintro e w2 ⟨r2, rfl, hq2, hk2⟩
  have hl2 : w.heap.size < w1.heap.size := Nat.lt_of_lt_of_le (Nat.lt_of_lt_of_le HND.out.2.2 HBW.out.size) HK1.out.size
  have s2 : w2.cell? ⟨w.heap.size, 1, none⟩ = some (.string a) := (World.cell?_of_block (a := ⟨w.heap.size, 1, none⟩) (hk2.block _ hl2 HND.out.2.1)).trans s1
  have t2 : w2.cell? ⟨w.heap.size, 2, none⟩ = some (.string b) := (World.cell?_of_block (a := ⟨w.heap.size, 2, none⟩) (hk2.block _ hl2 HND.out.2.1)).trans t1
  have HQ2 := Aside0.mk hq2
  have HK2 := Aside0.mk hk2
  clear hq2 hk2 hl2
  refine hK.out _ _ ⟨s2, t2⟩ (fun hHeld => ?_)
  clear hK K
  (try simp only [Act.put, List.setIfInBounds_toArray, List.set_cons_zero, List.set_cons_succ])
  refine take_l (i := 13) (v := ?v13) rfl (by kernel_rfl) (by kernel_rfl) (by kernel_rfl) (fun _ _ _ h => h) (Or.inl ⟨by rfl, ?hy13⟩) (by assumption) ?rest13
  case hy13 => (intro w hSw; (try dsimp only at hSw); go_simp; try with_reducible rfl)
  (try simp only [Act.put, List.setIfInBounds_toArray, List.set_cons_zero, List.set_cons_succ])
  refine take_l (i := 14) (v := ?v14) rfl (by kernel_rfl) (by kernel_rfl) (by kernel_rfl) (fun _ _ _ h => h) (Or.inl ⟨by rfl, ?hy14⟩) (by assumption) ?rest14
  case hy14 => (intro w hSw; (try dsimp only at hSw); go_simp; try with_reducible rfl)
  (try simp only [Act.put, List.setIfInBounds_toArray, List.set_cons_zero, List.set_cons_succ])
  refine wpAnyH_done (by kernel_rfl) ?_ _
  go_wp2
  go_ret2
  obtain ⟨Sd', Sq', h2, hg⟩ := H.out.after HB.out HD1.out HK1.out HQ2.out HK2.out
  obtain ⟨ok, full, g, x1, x2, x3, x4⟩ := HX.out
  exact ⟨r, r2, A', Sd', Sq', rfl, .inl ⟨rfl, ok, full, g, x1, x2, Nat.le_trans (Nat.le_trans (Nat.le_of_lt HND.out.2.2) HBW.out.size) x3, x4⟩, h2, hg⟩

end Go.Proofs.Ytolpgajodhondaa
