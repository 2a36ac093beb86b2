/- DiskQuiet: what its loops keep. -/
import Derived.Test.YtolpgajodhondaaQ1
import Derived.Test.YtolpgajodhondaaR15
namespace Go.Proofs.Ytolpgajodhondaa
open Go.RowKit Go.Maps Go.Sort Go.WideMaps Go.Proofs.YtolpgajodhondaaW.PrintWords

/-- A file that is there, read. -/
theorem got_any (w : World) (S : Nat → Prop) (d nb sb N L : Nat) (A : Disk) (s : ByteArray) (f : Nat) (hs : s.size ≤ maxLen) (hL : L ≤ 1152921504606) (h : DiskIn w S d nb sb N L A) (hd : A.down = false) (hk : A.names s.data.toList = some f) :
    Calls Try.prog 15 #[.pointer (some ⟨d, 0, none⟩), .string s] w (GotPost w (A.file f).1) := by
  refine (read_any w S d nb sb N L A s hs hL h).mono ?_
  rintro e w' ⟨v, hb, h | h | h⟩
  · rw [hd] at h; cases h.1
  · rw [hk] at h; cases h.2.1
  · obtain ⟨_, f', h1, h2, h3⟩ := h
    rw [hk] at h1
    cases h1
    exact ⟨v, h2, h3, hb⟩

/-- The disk, and the row of names beside it. -/
def Hold (w : World) (vn : Value) (ks : List (List UInt8)) (wr : World) (a N L : Nat) (P : Disk → Prop) : Prop :=
  ∃ S nb sb A, DiskIn wr S a nb sb N L A ∧ P A ∧ (∀ k, S k → w.heap.size ≤ k ∧ k < wr.heap.size) ∧ (∀ r, vn.ownBlock = some r → ¬ S r) ∧ wr.ownsRow w.heap.size 9 1 vn ks.length (ks.map encStr) ∧ Below w.heap.size w wr

theorem Hold.beside {w : World} {vn : Value} {ks : List (List UInt8)} {wr w' : World} {a N L : Nat} {P : Disk → Prop} (h : Hold w vn ks wr a N L P) (hb : Below wr.heap.size wr w') : Hold w vn ks w' a N L P := by
  obtain ⟨S, nb, sb, A, h1, h2, h3, h4, h5, h6⟩ := h
  have := hb.size
  exact ⟨S, nb, sb, A, h1.beside hb, h2, fun k hk => ⟨(h3 k hk).1, by have := (h3 k hk).2; omega⟩, h4, own_beside h5 hb, h6.trans (hb.mono h6.size)⟩

theorem Hold.mono {w : World} {vn : Value} {ks : List (List UInt8)} {wr : World} {a N L N' L' : Nat} {P : Disk → Prop} (h : Hold w vn ks wr a N L P) (hN : N ≤ N') (hL : L ≤ L') : Hold w vn ks wr a N' L' P := by
  obtain ⟨S, nb, sb, A, h1, h2, h3⟩ := h
  exact ⟨S, nb, sb, A, h1.mono hN hL, h2, h3⟩

/-- Behind a call on the disk. -/
theorem hold_after {w : World} {vn : Value} {ks : List (List UInt8)} {W w' : World} {a nb sb N L : Nat} {A : Disk} {S : Nat → Prop} {P : Disk → Prop} (h3 : ∀ k, S k → w.heap.size ≤ k ∧ k < W.heap.size) (h4 : ∀ r, vn.ownBlock = some r → ¬ S r) (h5 : W.ownsRow w.heap.size 9 1 vn ks.length (ks.map encStr)) (h6 : Below w.heap.size w W)
    (hd : DiskIn w' (more S W) a nb sb N L A) (hk : Keeps S W w') (hP : P A) : Hold w vn ks w' a N L P := by
  have hW := h6.size
  refine ⟨_, nb, sb, A, hd.tight, hP, ?_, ?_, ?_, h6.trans (hk.below hW (fun k hk => (h3 k hk).1))⟩
  · rintro k ⟨hk1 | hk1, hk2⟩
    · exact ⟨(h3 k hk1).1, hk2⟩
    · exact ⟨Nat.le_trans hW hk1, hk2⟩
  · rintro r hr ⟨hs | hs, _⟩
    · exact h4 r hr hs
    · have := own_lt h5 hr
      omega
  · exact own_move h5 (fun r hr => hk.block r (own_lt h5 hr) (h4 r hr))

theorem hold_append {w : World} {vn : Value} {ks : List (List UInt8)} {wr W : World} {a N L : Nat} {P Q : Disk → Prop} (h : Hold w vn ks wr a N L P) (hb : Below wr.heap.size wr W) (s : ByteArray) (c : List UInt8) (hs : s.size ≤ maxLen) (hN : N < maxLen) (hL : L + c.length ≤ 1152921504606) (hNL : N * L ≤ 4611686018427387903)
    (A : Option Addr) (cc : Nat) (hr : ReadsInt W .u8 A c.length (ints c)) (hA : ∀ a, A = some a → wr.heap.size ≤ a.block)
    (hQ : ∀ B, P B → ∀ ok full g, Q (if B.step.2 ≠ 0 then B.step else B.step.1.append1 ok full g s.data.toList c).1) :
    Calls Try.prog 8 #[.pointer (some ⟨a, 0, none⟩), .string s, .slice A c.length cc] W (fun e w' => ∃ n : Int, e = .returned (.int .i64 n) ∧ Hold w vn ks w' a (N + 1) (L + c.length) Q) := by
  have hlt : ∀ S : Nat → Prop, (∀ k, S k → w.heap.size ≤ k ∧ k < wr.heap.size) → ∀ ad, A = some ad → ¬ S ad.block := fun S hS ad e hs => by
    have := hA ad e
    have := (hS _ hs).2
    omega
  obtain ⟨S, nb, sb, B, h1, h2, h3, h4, h5, h6⟩ := h
  have hbs := hb.size
  refine (append_any W S a nb sb N L B s c A cc hs hN hNL hL hr (hlt S h3) (h1.beside hb)).mono ?_
  rintro e w' ⟨ok, full, g, _, _, _, rfl, hin', hk⟩
  exact ⟨_, rfl, hold_after (fun k hk => ⟨(h3 k hk).1, by have := (h3 k hk).2; omega⟩) h4 (own_beside h5 hb) (h6.trans (hb.mono h6.size)) hin' hk (hQ B h2 ok full g)⟩

theorem hold_sync {w : World} {vn : Value} {ks : List (List UInt8)} {wr : World} {a N L : Nat} {P Q : Disk → Prop} (h : Hold w vn ks wr a N L P) (s : ByteArray) (hs : s.size ≤ maxLen) (hQ : ∀ B, P B → Q (B.sync s.data.toList).1) :
    Calls Try.prog 9 #[.pointer (some ⟨a, 0, none⟩), .string s] wr (fun e w' => ∃ n : Int, e = .returned (.int .i64 n) ∧ Hold w vn ks w' a N L Q) := by
  obtain ⟨S, nb, sb, B, h1, h2, h3, h4, h5, h6⟩ := h
  refine (sync_any wr S a nb sb N L B s hs h1).mono ?_
  rintro e w' ⟨rfl, hin', hk, _⟩
  exact ⟨_, rfl, hold_after h3 h4 h5 h6 (more_keep hin') hk (hQ B h2)⟩

theorem hold_syncNames {w : World} {vn : Value} {ks : List (List UInt8)} {wr : World} {a N L : Nat} {P Q : Disk → Prop} (h : Hold w vn ks wr a N L P) (hQ : ∀ B, P B → Q B.syncNames.1) :
    Calls Try.prog 10 #[.pointer (some ⟨a, 0, none⟩)] wr (fun e w' => ∃ n : Int, e = .returned (.int .i64 n) ∧ Hold w vn ks w' a N L Q) := by
  obtain ⟨S, nb, sb, B, h1, h2, h3, h4, h5, h6⟩ := h
  refine (syncNames_any wr S a nb sb N L B h1).mono ?_
  rintro e w' ⟨sb', rfl, hin', hk⟩
  exact ⟨_, rfl, hold_after h3 h4 h5 h6 hin' hk (hQ B h2)⟩

/-- The row of names, as the walk reads it. -/
theorem names_cell {w : World} {base : Nat} {P : Option Addr} {n c : Nat} {ks : List (List UInt8)} (h : w.ownsRow base 9 1 (.slice P n c) ks.length (ks.map encStr)) (i : Nat) (hi : i < ks.length) : ∃ ad, P = some ad ∧ w.cell? (ad.add i) = some (encStr (ks.getD i [])) := by
  have hget : ks[i]? = some (ks.getD i []) := by rw [List.getD_eq_getElem?_getD, List.getElem?_eq_getElem hi]; rfl
  rcases h.2 with ⟨e, h0⟩ | ⟨g, cap, cur, e, _⟩
  · omega
  · injection e with e1 e2
    refine ⟨⟨g, 0, none⟩, e1, ?_⟩
    exact h.cells (g := g) (by rw [e1]; rfl) i (encStr (ks.getD i [])) (by rw [List.getElem?_map, hget]; rfl)

/-- A step of the first loop. -/
theorem quiet_do {w wr W W1 : World} {d q i : Nat} {k : Int} {a bb : ByteArray} {n : Int} {A1 A2 : Option Addr} {n1 c1 n2 c2 : Nat} (h : DiskNow wr w.heap.size wr.heap.size d i (100 * i) (fun _ => True)) (hb : Below w.heap.size w wr) (hbW : Below wr.heap.size wr W) (hb1 : Below W.heap.size W W1) (hq : RefIn W1 (fun k => W.heap.size ≤ k) q 0 0) (hi : i ≤ 100) (ha : a.size ≤ maxLen) (hbb : bb.size ≤ 100) :
    Calls Try.prog 13 #[.pointer (some ⟨d, 0, none⟩), .pointer (some ⟨q, 0, none⟩), .agg #[.int .i64 k, .string a, .string bb, .int .i64 n, .slice A1 n1 c1, .slice A2 n2 c2]] W1
      (fun e w' => (∃ r r2 : Int, e = .returned (.tuple #[.int .i64 r, .int .i64 r2])) ∧ DiskNow w' w.heap.size w'.heap.size d (i + 1) (100 * (i + 1)) (fun _ => True) ∧ Below w.heap.size w w' ∧ ∀ o, wr.heap.size ≤ o → o < W.heap.size → w'.heap[o]? = W1.heap[o]?) := by
  obtain ⟨A, _, ht⟩ := Two.start (h.beside hbW) hq hb1
  refine (do_any W1 _ _ d q i (100 * i) A k a bb n A1 A2 n1 c1 n2 c2 ha (by omega) (by omega) (by omega) ht).mono ?_
  rintro e w' ⟨r, r2, A', Sd', Sq', rfl, _, ht', hg⟩
  have hl : bb.data.toList.length = bb.size := by rw [Array.length_toList]; rfl
  obtain ⟨nb, sb, hd⟩ := ht'.disk
  have hsz := hb.size
  have hszW := hbW.size
  have hsz1 := hb1.size
  refine ⟨⟨r, r2, rfl⟩, (now_of (P := fun _ => True) (base := w.heap.size) hd trivial (fun k hk => ?_)).mono (by omega) (by omega) (fun _ h => h), (hb.trans ((hbW.trans (hb1.mono hszW)).mono hb.size)).trans (hg.1.below (by omega) ?_), fun o h1 h2 => hg.1.block o (by omega) (fun hs => ?_)⟩
  · rcases hg.2.1 k hk with h' | h' <;> omega
  · rintro k (h' | h') <;> omega
  · rcases hs with h' | h' <;> omega

theorem nines (w : World) : CutRow (w.alloc (.cells #[.int .u16 9, .int .u16 9, .int .u16 9] 46)) (.slice (some ⟨w.heap.size, 0, none⟩) 3 3) [9, 9, 9] := by
  refine ⟨_, 3, rfl, by decide, fun _ => ⟨_, rfl, fun j hj => ?_⟩⟩
  have hj : j < 3 := hj
  match j, hj with
  | 0, _ => exact ⟨World.news_of_block (heap_alloc_new w _) 0 _ rfl, by decide⟩
  | 1, _ => exact ⟨World.news_of_block (heap_alloc_new w _) 1 _ rfl, by decide⟩
  | 2, _ => exact ⟨World.news_of_block (heap_alloc_new w _) 2 _ rfl, by decide⟩

end Go.Proofs.Ytolpgajodhondaa
