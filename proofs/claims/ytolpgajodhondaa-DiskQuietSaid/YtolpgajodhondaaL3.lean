/- DiskLasts: what a round keeps. -/
import Derived.Test.YtolpgajodhondaaL2
namespace Go.Proofs.Ytolpgajodhondaa
open Go.RowKit Go.Maps Go.Sort Go.WideMaps Go.Proofs.YtolpgajodhondaaW.PrintWords

abbrev sureB : ByteArray := { data := #[115, 117, 114, 101] }
abbrev sureK : List UInt8 := [115, 117, 114, 101]

theorem list_of_eq {a : ByteArray} : a.data.toList = sureK ↔ a = sureB := by
  constructor
  · intro h
    cases a with
    | mk l =>
      cases l with
      | mk l => simp only at h; subst h; rfl
  · rintro rfl; rfl

theorem toList_eq' (a : ByteArray) : a.toList = [115, 117, 114, 101] ↔ a = sureB := by
  rw [ByteArray.toList_eq]
  exact list_of_eq

theorem list_append (a b : ByteArray) : (a ++ b).data.toList = a.data.toList ++ b.data.toList := by
  rw [ByteArray.data_append, Array.toList_append]

theorem size_append' (a b : ByteArray) : (a ++ b).size = a.size + b.size := ByteArray.size_append

theorem str_ints (l : List UInt8) : strOfNums (ints l) = ⟨l.toArray⟩ := by
  unfold strOfNums ints
  congr 1
  rw [List.map_map]
  congr 1
  conv => rhs; rw [← List.map_id l]
  refine List.map_congr_left fun x _ => ?_
  simp

theorem str_take (b more : ByteArray) (n : Nat) : strOfNums (ints ((b.data.toList ++ more.data.toList).take n)) = (b ++ more).extract 0 n := by
  rw [str_ints]
  refine ByteArray.ext ?_
  show ((b.data.toList ++ more.data.toList).take n).toArray = ((b ++ more).extract 0 n).data
  rw [ByteArray.data_extract, ByteArray.data_append]
  apply Array.toList_inj.1
  simp
  rw [List.take_append, Array.length_toList]
  rfl

/-- Behind i steps. -/
def LastRel (w : World) (b : ByteArray) (d q i : Nat) (more : ByteArray) (wr : World) : Prop :=
  ∃ Sd Sq A, Two wr Sd Sq d q (1 + i) (500 + 100 * i) A ∧ Keeping A sureK b.size (b.data.toList ++ more.data.toList) ∧ Below w.heap.size w wr ∧ (∀ k, Sd k ∨ Sq k → w.heap.size ≤ k) ∧ more.size ≤ 100 * i

theorem LastRel.skip {w wr W : World} {b : ByteArray} {d q i : Nat} {more : ByteArray} (h : LastRel w b d q i more wr) (hb : Below wr.heap.size wr W) : LastRel w b d q (i + 1) more W := by
  obtain ⟨Sd, Sq, A, h1, h2, h3, h4, h5⟩ := h
  exact ⟨Sd, Sq, A, (h1.beside hb).mono (by omega) (by omega), h2, h3.trans (hb.mono h3.size), h4, by omega⟩

/-- What the step's call comes to. -/
def LastPost (w : World) (b : ByteArray) (d q i : Nat) (more : ByteArray) (k : Int) (a bb : ByteArray) (wr W : World) (e : Ending) (w' : World) : Prop :=
  ∃ r r2 : Int, e = .returned (.tuple #[.int .i64 r, .int .i64 r2]) ∧ LastRel w b d q (i + 1) (if k = 0 ∧ a = sureB ∧ r = 0 then more ++ bb else more) w' ∧ ∀ o, wr.heap.size ≤ o → o < W.heap.size → w'.heap[o]? = W.heap[o]?

theorem last_do {P : Program} {F : Nat} {args : Array Value} {w wr W : World} {b : ByteArray} {d q i : Nat} {more : ByteArray} {Sd Sq : Nat → Prop} {A : Disk} {k : Int} {a bb : ByteArray} {n : Int}
    (h1 : Two wr Sd Sq d q (1 + i) (500 + 100 * i) A) (h2 : Keeping A sureK b.size (b.data.toList ++ more.data.toList)) (h3 : Below w.heap.size w wr) (h4 : ∀ k, Sd k ∨ Sq k → w.heap.size ≤ k) (h5 : more.size ≤ 100 * i)
    (hb : Below wr.heap.size wr W) (hbb : bb.size ≤ 100) (g4 : k ≤ 4) (g2 : k = 2 → a ≠ sureB ∧ bb ≠ sureB) (g3 : k = 3 → a ≠ sureB)
    (h : Calls P F args W (DoPost W Sd Sq d q (1 + i) (500 + 100 * i) A k a bb n)) : Calls P F args W (LastPost w b d q i more k a bb wr W) := by
  refine h.mono ?_
  rintro e w' ⟨r, r2, A', Sd', Sq', rfl, hr, ht, hg⟩
  have htW := h1.beside hb
  obtain ⟨nb, sb, hd⟩ := htW.disk
  have hk := h2.after hr hd.refs_lt g4 (fun e => ⟨fun e' => (g2 e).1 (list_of_eq.1 e'), fun e' => (g2 e).2 (list_of_eq.1 e')⟩) (fun e e' => g3 e (list_of_eq.1 e'))
  have hl : bb.data.toList.length = bb.size := by rw [Array.length_toList]; rfl
  have hWw : w.heap.size ≤ W.heap.size := Nat.le_trans h3.size hb.size
  refine ⟨r, r2, rfl, ⟨Sd', Sq', A', ht.mono (by omega) (by omega), ?_, ?_, ?_, ?_⟩, ?_⟩
  · simp only [list_of_eq] at hk
    split
    · rename_i hc
      rw [if_pos hc] at hk
      rw [list_append, ← List.append_assoc]
      exact hk
    · rename_i hc
      rw [if_neg hc] at hk
      exact hk
  · refine (h3.trans (hb.mono h3.size)).trans ?_
    exact hg.1.below hWw (fun k hk => h4 k hk)
  · rintro k (hk | hk)
    · rcases hg.2.1 k hk with h' | h'
      · exact h4 k (.inl h')
      · omega
    · rcases hg.2.2 k hk with h' | h'
      · exact h4 k (.inr h')
      · omega
  · split
    · rw [size_append']; omega
    · omega
  · intro o ho hs
    exact hg.1.block o hs (fun hs' => by have := h1.low o hs'; omega)

end Go.Proofs.Ytolpgajodhondaa
