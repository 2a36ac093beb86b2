/- Both disks, side by side; what a step may do. -/
import Derived.Test.YtolpgajodhondaaR9
namespace Go.Proofs.Ytolpgajodhondaa
open Go.RowKit Go.Maps Go.Sort Go.WideMaps Go.Proofs.YtolpgajodhondaaW.PrintWords

/-- BOTH DISKS, each in blocks of its own. -/
structure Two (w : World) (Sd Sq : Nat → Prop) (d q N L : Nat) (A : Disk) : Prop where
  disk : ∃ nb sb, DiskIn w Sd d nb sb N L A
  ref : RefIn w Sq q N L
  apart : ∀ k, Sd k → ¬ Sq k
  low : ∀ k, Sd k ∨ Sq k → k < w.heap.size

theorem RefIn.keep {w w' : World} {S S' : Nat → Prop} {q N L : Nat} (h : RefIn w S q N L) (hk : ∀ k, S k → k < w.heap.size → w'.heap[k]? = w.heap[k]?) (hS : ∀ k, S k → S' k) : RefIn w' S' q N L := by
  obtain ⟨R, h⟩ := h
  exact ⟨R, h.keep hk hS⟩

theorem RefIn.tight {w : World} {S : Nat → Prop} {q N L : Nat} (h : RefIn w S q N L) : RefIn w (fun k => S k ∧ k < w.heap.size) q N L := by
  obtain ⟨R, h⟩ := h
  exact ⟨R, h.tight⟩

theorem RefIn.mono {w : World} {S : Nat → Prop} {q N L N' L' : Nat} (h : RefIn w S q N L) (hN : N ≤ N') (hL : L ≤ L') : RefIn w S q N' L' := by
  obtain ⟨R, h⟩ := h
  exact ⟨R, h.mono hN hL⟩

theorem Two.beside {w w' : World} {Sd Sq : Nat → Prop} {d q N L : Nat} {A : Disk} (h : Two w Sd Sq d q N L A) (hb : Below w.heap.size w w') : Two w' Sd Sq d q N L A := by
  obtain ⟨⟨nb, sb, h1⟩, h2, h3, h4⟩ := h
  exact ⟨⟨nb, sb, h1.beside hb⟩, h2.keep (fun k _ hl => hb.block k hl) (fun _ h => h), h3, fun k hk => Nat.lt_of_lt_of_le (h4 k hk) hb.size⟩

/-- What turned of either. -/
def Grew (w w' : World) (Sd Sq Sd' Sq' : Nat → Prop) : Prop := Keeps (fun k => Sd k ∨ Sq k) w w' ∧ (∀ k, Sd' k → Sd k ∨ w.heap.size ≤ k) ∧ ∀ k, Sq' k → Sq k ∨ w.heap.size ≤ k

/-- The other disk, behind a call on the first. -/
theorem Two.other {w W w1 : World} {Sd Sq : Nat → Prop} {d q N L : Nat} {A : Disk} (h : Two w Sd Sq d q N L A) (hb : Below w.heap.size w W) (hk1 : Keeps Sd W w1) : RefIn w1 Sq q N L :=
  (h.ref.keep (fun k _ hl => hb.block k hl) (fun _ h => h)).keep (fun k hs hl => hk1.block k hl (fun hd => h.apart k hd hs)) (fun _ h => h)

theorem Two.after {w W w1 w2 : World} {Sd Sq : Nat → Prop} {d q nb sb N L N' L' : Nat} {A A' : Disk} (h : Two w Sd Sq d q N L A) (hb : Below w.heap.size w W) (hd : DiskIn w1 (more Sd W) d nb sb N' L' A') (hk1 : Keeps Sd W w1) (hq : RefIn w2 (more Sq w1) q N' L') (hk2 : Keeps Sq w1 w2) :
    ∃ Sd' Sq', Two w2 Sd' Sq' d q N' L' A' ∧ Grew w w2 Sd Sq Sd' Sq' := by
  have hWw := hb.size
  have h1W := hk1.size
  have h21 := hk2.size
  refine ⟨fun k => more Sd W k ∧ k < w1.heap.size, fun k => more Sq w1 k ∧ k < w2.heap.size, ⟨⟨nb, sb, ?_⟩, hq.tight, ?_, ?_⟩, ?_, ?_, ?_⟩
  · refine hd.tight.keep (fun k hk hl => hk2.block k hl (fun hs => ?_)) (fun _ h => h)
    rcases hk.1 with h' | h'
    · exact h.apart k h' hs
    · have := h.low k (.inr hs)
      omega
  · rintro k ⟨hk, hk1'⟩ ⟨hq', _⟩
    rcases hq' with hq' | hq'
    · rcases hk with h' | h'
      · exact h.apart k h' hq'
      · have := h.low k (.inr hq')
        omega
    · omega
  · rintro k (⟨_, hk⟩ | ⟨_, hk⟩) <;> omega
  · exact ((Keeps.of_new (S := fun k => Sd k ∨ Sq k) hb).trans hk1 (fun i hi => .inl (.inl hi))).trans hk2 (fun i hi => .inl (.inr hi))
  · rintro k ⟨hk | hk, _⟩
    · exact .inl hk
    · exact .inr (by omega)
  · rintro k ⟨hk | hk, _⟩
    · exact .inl hk
    · exact .inr (by omega)

/-- WHAT A STEP COMES TO. -/
def DoRel (sz N L : Nat) (A : Disk) (k : Int) (a b : ByteArray) (n : Int) (A' : Disk) (r : Int) : Prop :=
  (k = 0 ∧ ∃ ok full g, (plain a = true → ok = true) ∧ (((N * L + b.data.toList.length : Nat) : Int) ≤ A.step.1.room → N < 256 → full = false) ∧ sz ≤ g ∧ (A', r) = if A.step.2 ≠ 0 then A.step else A.step.1.append1 ok full g a.data.toList b.data.toList) ∨
  (k = 1 ∧ (A', r) = A.sync a.data.toList) ∨ (k = 2 ∧ ∃ ok, (A', r) = if A.step.2 ≠ 0 then A.step else A.step.1.rename1 ok a.data.toList b.data.toList) ∨ (k = 3 ∧ (A', r) = A.remove a.data.toList) ∨
  (k = 4 ∧ (A', r) = A.syncNames) ∨ (k = 5 ∧ (A', r) = ({ A with fuse := n }, 0)) ∨ ((k < 0 ∨ 5 < k) ∧ (A', r) = (A, 0))

def DoPost (w : World) (Sd Sq : Nat → Prop) (d q N L : Nat) (A : Disk) (k : Int) (a b : ByteArray) (n : Int) (e : Ending) (w' : World) : Prop :=
  ∃ r r2 A' Sd' Sq', e = .returned (.tuple #[.int .i64 r, .int .i64 r2]) ∧ DoRel w.heap.size N L A k a b n A' r ∧ Two w' Sd' Sq' d q (N + 1) (L + b.data.toList.length) A' ∧ Grew w w' Sd Sq Sd' Sq'

end Go.Proofs.Ytolpgajodhondaa
