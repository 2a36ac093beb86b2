/- A map of times to blocks. -/
import Derived.Test.YtieoilnkfnlbaaaG10
import Derived.Maps.OwnSet
import Derived.Maps.RangeWalk
import Derived.Sort.KeysCollected
import Derived.Sort.OwnSorted
namespace Go.Proofs.Ytieoilnkfnlbaaa
open Go.RowKit Go.Maps Go.Sort Go.WideMaps Go.Proofs.YtieoilnkfnlbaaaW.PrintWords

/-- How a pointer to a block reads: by the block's number. -/
def ptrElem (v : Value) : Option (DataW Unit × List MemPlace) :=
  match v with
  | .pointer none => some (.nil, [])
  | .pointer (some a) => if a = ⟨a.block, 0, none⟩ then some (.lit (.int .i64 a.block), []) else none
  | _ => none

def enc (o : Option Nat) : DataW Unit := match o with | none => .nil | some b => .lit (.int .i64 b)
def ptr (o : Option Nat) : Value := .pointer (o.map fun b => ⟨b, 0, none⟩)

@[go_sem] theorem ptr_some (b : Nat) : ptr (some b) = .pointer (some ⟨b, 0, none⟩) := rfl
@[go_sem] theorem ptr_none : ptr none = .pointer none := rfl

theorem ptrElem_ptr (o : Option Nat) : ptrElem (ptr o) = some (enc o, []) := by
  cases o <;> simp [ptr, ptrElem, enc]

theorem ptrElem_inv {v : Value} {z : DataW Unit × List MemPlace} (h : ptrElem v = some z) : ∃ o, v = ptr o ∧ z = (enc o, []) := by
  unfold ptrElem at h
  split at h
  · cases h; exact ⟨none, rfl, rfl⟩
  · rename_i a
    split at h
    · rename_i ha
      cases h
      exact ⟨some a.block, by rw [ha]; rfl, rfl⟩
    · cases h
  · cases h

theorem enc_inj {a b : Option Nat} (h : enc a = enc b) : a = b := by
  cases a <;> cases b <;> simp [enc] at h ⊢
  omega

/-- Changed at one place. -/
def upd (m : Int → Option Nat) (k : Int) (o : Option Nat) : Int → Option Nat := fun x => if x = k then o else m x

/-- BLOCK b IS A MAP OF AT MOST n ENTRIES, OF TIMES TO BLOCKS, AS m HAS THEM. -/
def MapAt (w : World) (b n : Nat) (m : Int → Option Nat) : Prop :=
  ∃ D : DataW Unit, w.ownsMap Try.prog 2 ptrElem b n D ∧ (∀ k, Maps.has D (.int .i64 k) = (m k).isSome) ∧ ∀ k, D.atKey (.int .i64 k) .nil = enc (m k)

theorem ownsMap_block {H : Type} {P : Program} {k : TypeId} {R : Value → Option (DataW H × List MemPlace)} {w w' : World} {b n : Nat} {D : DataW H} (h : w.ownsMap P k R b n D) (hb : w'.heap[b]? = w.heap[b]?) : w'.ownsMap P k R b n D := by
  obtain ⟨es, clock, h1, r⟩ := h
  exact ⟨es, clock, hb.trans h1, r⟩

theorem MapAt.lt {w : World} {b n : Nat} {m : Int → Option Nat} (h : MapAt w b n m) : b < w.heap.size := by
  obtain ⟨D, h, _⟩ := h
  exact h.lt

theorem MapAt.keep {w w' : World} {b n : Nat} {m : Int → Option Nat} (h : MapAt w b n m) (hb : w'.heap[b]? = w.heap[b]?) : MapAt w' b n m := by
  obtain ⟨D, h, r⟩ := h
  exact ⟨D, ownsMap_block h hb, r⟩

theorem law2 : Keyed Try.prog 2 := int_keyed Try.underlying2
theorem zero63 (w : World) : (zeroValue 63).run Try.prog w = .ok (ptr none) w := by kernel_rfl
theorem key2 (k : Int) (hw : (Lit.int .i64 k).wf = true) : keyOf Try.prog 2 (.int .i64 k) = some (.int .i64 k) := keyOf_int_mk Try.underlying2 hw

theorem ne_lit {a b : Int} (h : a ≠ b) : Lit.int .i64 a ≠ Lit.int .i64 b := fun e => h (by injection e)
theorem isKey (k : Int) : WideAt.IsKeyLit (.int .i64 k) := by simp [WideAt.IsKeyLit]

theorem MapAt.made (w : World) : MapAt (w.alloc (.map #[] 0)) w.heap.size 0 (fun _ => none) :=
  ⟨.map [], World.ownsMap_made w _ _ _, fun _ => rfl, fun _ => rfl⟩

theorem MapAt.look {w : World} {b n : Nat} {m : Int → Option Nat} (h : MapAt w b n m) (k : Int) (hw : (Lit.int .i64 k).wf = true) : (Instr.lookup 62 (.map (some b)) (.int .i64 k) false).run Try.prog w = .ok (ptr (m k)) w := by
  obtain ⟨D, h, h1, h2⟩ := h
  obtain ⟨v, ps, hrun, hv⟩ := h.lookup law2 Try.underlying62 (zero63 w) (ptrElem_ptr none) (key2 k hw)
  obtain ⟨o, rfl, he⟩ := ptrElem_inv hv
  have e1 : enc (m k) = enc o := by
    have := congrArg Prod.fst he
    simp only at this
    rw [← h2, ← this]
    rfl
  rw [enc_inj e1]
  exact hrun

theorem MapAt.store {w : World} {b n : Nat} {m : Int → Option Nat} (h : MapAt w b n m) (hn : n < maxLen) (k : Int) (hw : (Lit.int .i64 k).wf = true) (f : Nat) :
    ∃ w', (Instr.mapUpdate 62 (.map (some b)) (.int .i64 k) (.pointer (some ⟨f, 0, none⟩))).run Try.prog w = .ok () w' ∧ MapAt w' b (n + 1) (upd m k (some f)) ∧ w.mapTurned w' b := by
  obtain ⟨D, h, h1, h2⟩ := h
  obtain ⟨w', hrun, hown, ht⟩ := h.store law2 Try.underlying62 hn (key2 k hw) (ptrElem_ptr (some f))
  refine ⟨w', hrun, ⟨_, hown, fun x => ?_, fun x => ?_⟩, ht⟩
  · unfold upd
    by_cases e : x = k
    · subst e
      rw [if_pos rfl, has_put_same h.isMap (isKey _)]; rfl
    · rw [if_neg e, has_put_other (ne_lit e), h1]
  · unfold upd
    by_cases e : x = k
    · subst e
      rw [if_pos rfl, atKey_put_same h.isMap (isKey _)]
    · rw [if_neg e, atKey_put_other (ne_lit e), h2]

/-- What turned: blocks of S alone; new ones may be there. -/
structure Keeps (S : Nat → Prop) (w w' : World) : Prop where
  os : w'.os = w.os
  tape : w'.tape = w.tape
  output : w'.output = w.output
  size : w.heap.size ≤ w'.heap.size
  block : ∀ k, k < w.heap.size → ¬ S k → w'.heap[k]? = w.heap[k]?

theorem Keeps.refl (S : Nat → Prop) (w : World) : Keeps S w w := ⟨rfl, rfl, rfl, Nat.le_refl _, fun _ _ _ => rfl⟩
theorem Keeps.trans {S : Nat → Prop} {a b c : World} (h : Keeps S a b) (k : Keeps S b c) : Keeps S a c :=
  ⟨k.os.trans h.os, k.tape.trans h.tape, k.output.trans h.output, Nat.le_trans h.size k.size, fun i hi hn => (k.block i (Nat.lt_of_lt_of_le hi h.size) hn).trans (h.block i hi hn)⟩
theorem Keeps.of_below {S : Nat → Prop} {w w' : World} (h : Below w.heap.size w w') : Keeps S w w' := ⟨h.os, h.tape, h.output, h.size, fun k hk _ => h.block k hk⟩
theorem Keeps.set {S : Nat → Prop} {w w' : World} (h : Keeps S w w') (p : Addr) (hp : S p.block) (u : Value) : Keeps S w (w'.setCell p u) :=
  h.trans ⟨rfl, rfl, rfl, by simp [World.setCell], fun k _ hn => Below.heap_setCell w' p u k (fun e => hn (e ▸ hp))⟩
theorem Keeps.grown {S : Nat → Prop} {w w1 w' : World} {row : Option Nat} (h : Keeps S w w1) (hg : w1.grownBy w' row) (hr : ∀ k, row = some k → S k ∨ w1.heap.size ≤ k) : Keeps S w w' :=
  h.trans ⟨hg.os, hg.tape, hg.output, hg.size, fun k hk hn => hg.block k hk (fun e => by rcases hr k e.symm with h' | h'; exact hn h'; omega)⟩
theorem Keeps.turned {S : Nat → Prop} {w w1 w' : World} {b : Nat} (h : Keeps S w w1) (ht : w1.mapTurned w' b) (hb : S b) : Keeps S w w' :=
  h.trans ⟨ht.grown.os, ht.grown.tape, ht.grown.output, ht.grown.size, fun k hk hn => ht.grown.block k hk (fun e => by cases e; exact hn hb)⟩
theorem Keeps.below {S : Nat → Prop} {B : Nat} {w w' : World} (h : Keeps S w w') (hB : B ≤ w.heap.size) (hS : ∀ k, S k → B ≤ k) : Below B w w' := ⟨h.os, h.tape, h.output, h.size, fun k hk => h.block k (by omega) (fun hs => by have := hS k hs; omega)⟩

end Go.Proofs.Ytieoilnkfnlbaaa
