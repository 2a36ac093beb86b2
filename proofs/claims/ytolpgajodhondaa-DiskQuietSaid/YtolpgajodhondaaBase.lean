/- The disk's memory: maps of names to files, files, a disk: what each reads as, and how it stays while other blocks turn. -/
import Derived.WalkKit
import Derived.Maps.OwnSet
import Derived.Maps.RangeWalk
import Derived.Sort.KeysCollected
import Derived.StringKeys
import Derived.Test.YtolpgajodhondaaWWords
import Derived.Test.YtolpgajodhondaaProg
namespace Go.Proofs.Ytolpgajodhondaa
open Go.RowKit Go.Maps Go.Sort Go.WideMaps Go.Proofs.YtolpgajodhondaaW.PrintWords

/-- How a pointer to a block reads: by the block's number. -/
def ptrElem (v : Value) : Option (DataW Unit × List MemPlace) :=
  match v with
  | .pointer none => some (.nil, [])
  | .pointer (some a) => if a = ⟨a.block, 0, none⟩ then some (.lit (.int .i64 a.block), []) else none
  | _ => none

def enc (o : Option Nat) : DataW Unit := match o with | none => .nil | some b => .lit (.int .i64 b)
def ptr (o : Option Nat) : Value := .pointer (o.map fun b => ⟨b, 0, none⟩)

@[go_sem] theorem ptr_some (b : Nat) : ptr (some b) = .pointer (some ⟨b, 0, none⟩) := rfl
@[go_sem] theorem ptr_none : ptr none = .pointer none := rfl

theorem ptrElem_ptr (o : Option Nat) : ptrElem (ptr o) = some (enc o, []) := by
  cases o <;> simp [ptr, ptrElem, enc]

theorem ptrElem_inv {v : Value} {z : DataW Unit × List MemPlace} (h : ptrElem v = some z) : ∃ o, v = ptr o ∧ z = (enc o, []) := by
  unfold ptrElem at h
  split at h
  · cases h; exact ⟨none, rfl, rfl⟩
  · rename_i a
    split at h
    · rename_i ha
      cases h
      exact ⟨some a.block, by rw [ha]; rfl, rfl⟩
    · cases h
  · cases h

theorem enc_inj {a b : Option Nat} (h : enc a = enc b) : a = b := by
  cases a <;> cases b <;> simp [enc] at h ⊢
  omega

/-- Changed at one place. -/
def upd (m : List UInt8 → Option Nat) (k : List UInt8) (o : Option Nat) : List UInt8 → Option Nat := fun x => if x = k then o else m x

/-- BLOCK b IS A MAP OF AT MOST n ENTRIES, OF TEXTS TO BLOCKS, AS m HAS THEM. -/
def MapAt (w : World) (b n : Nat) (m : List UInt8 → Option Nat) : Prop :=
  ∃ D : DataW Unit, w.ownsMap Try.prog 9 ptrElem b n D ∧ (∀ k, Maps.has D (.string k) = (m k).isSome) ∧ ∀ k, D.atKey (.string k) .nil = enc (m k)

theorem MapAt.lt {w : World} {b n : Nat} {m : List UInt8 → Option Nat} (h : MapAt w b n m) : b < w.heap.size := by
  obtain ⟨D, h, _⟩ := h
  exact h.lt

theorem MapAt.mono {w : World} {b n n' : Nat} {m : List UInt8 → Option Nat} (h : MapAt w b n m) (hn : n ≤ n') : MapAt w b n' m := by
  obtain ⟨D, h, r⟩ := h
  exact ⟨D, h.mono hn, r⟩

theorem ownsMap_block {H : Type} {P : Program} {k : TypeId} {R : Value → Option (DataW H × List MemPlace)} {w w' : World} {b n : Nat} {D : DataW H} (h : w.ownsMap P k R b n D) (hb : w'.heap[b]? = w.heap[b]?) : w'.ownsMap P k R b n D := by
  obtain ⟨es, clock, h1, r⟩ := h
  exact ⟨es, clock, hb.trans h1, r⟩

theorem MapAt.keep {w w' : World} {b n : Nat} {m : List UInt8 → Option Nat} (h : MapAt w b n m) (hb : w'.heap[b]? = w.heap[b]?) : MapAt w' b n m := by
  obtain ⟨D, h, r⟩ := h
  exact ⟨D, ownsMap_block h hb, r⟩

theorem law9 : Keyed Try.prog 9 := string_keyed Try.underlying9
theorem zero57 (w : World) : (zeroValue 57).run Try.prog w = .ok (ptr none) w := by kernel_rfl

theorem MapAt.made (w : World) : MapAt (w.alloc (.map #[] 0)) w.heap.size 0 (fun _ => none) :=
  ⟨.map [], World.ownsMap_made w _ _ _, fun _ => rfl, fun _ => rfl⟩

theorem key9 (s : ByteArray) (hs : s.size ≤ maxLen) : keyOf Try.prog 9 (.string s) = some (.string s.data.toList) := keyOf_string_mk Try.underlying9 hs

theorem ne_lit {a b : List UInt8} (h : a ≠ b) : Lit.string a ≠ Lit.string b := fun e => h (by injection e)

theorem isKey (k : List UInt8) : WideAt.IsKeyLit (.string k) := by simp [WideAt.IsKeyLit]

section
variable {w : World} {b n : Nat} {m : List UInt8 → Option Nat}

theorem MapAt.look (h : MapAt w b n m) (s : ByteArray) (hs : s.size ≤ maxLen) : (Instr.lookup 54 (.map (some b)) (.string s) false).run Try.prog w = .ok (ptr (m s.data.toList)) w := by
  obtain ⟨D, h, h1, h2⟩ := h
  obtain ⟨v, ps, hrun, hv⟩ := h.lookup law9 Try.underlying54 (zero57 w) (ptrElem_ptr none) (key9 s hs)
  obtain ⟨o, rfl, he⟩ := ptrElem_inv hv
  have e1 : enc (m s.data.toList) = enc o := by
    have := congrArg Prod.fst he
    simp only at this
    rw [← h2, ← this]
    rfl
  rw [enc_inj e1]
  exact hrun

theorem MapAt.lookOk (h : MapAt w b n m) (s : ByteArray) (hs : s.size ≤ maxLen) : (Instr.lookup 54 (.map (some b)) (.string s) true).run Try.prog w = .ok (.tuple #[ptr (m s.data.toList), .bool (m s.data.toList).isSome]) w := by
  obtain ⟨D, h, h1, h2⟩ := h
  obtain ⟨v, ps, hrun, hv⟩ := h.look_ok law9 Try.underlying54 (zero57 w) (ptrElem_ptr none) (key9 s hs)
  obtain ⟨o, rfl, he⟩ := ptrElem_inv hv
  have e1 : enc (m s.data.toList) = enc o := by
    have := congrArg Prod.fst he
    simp only at this
    rw [← h2, ← this]
    rfl
  rw [← enc_inj e1] at hrun
  rw [h1] at hrun
  exact hrun

theorem MapAt.store (h : MapAt w b n m) (hn : n < maxLen) (s : ByteArray) (hs : s.size ≤ maxLen) (f : Nat) :
    ∃ w', (Instr.mapUpdate 54 (.map (some b)) (.string s) (ptr (some f))).run Try.prog w = .ok () w' ∧ MapAt w' b (n + 1) (upd m s.data.toList (some f)) ∧ w.mapTurned w' b := by
  obtain ⟨D, h, h1, h2⟩ := h
  obtain ⟨w', hrun, hown, ht⟩ := h.store law9 Try.underlying54 hn (key9 s hs) (ptrElem_ptr (some f))
  refine ⟨w', hrun, ⟨_, hown, fun k => ?_, fun k => ?_⟩, ht⟩
  · unfold upd
    by_cases e : k = s.data.toList
    · subst e
      rw [if_pos rfl, has_put_same h.isMap (isKey _)]; rfl
    · rw [if_neg e, has_put_other (ne_lit e), h1]
  · unfold upd
    by_cases e : k = s.data.toList
    · subst e
      rw [if_pos rfl, atKey_put_same h.isMap (isKey _)]
    · rw [if_neg e, atKey_put_other (ne_lit e), h2]

theorem MapAt.drop (h : MapAt w b n m) (s : ByteArray) (hs : s.size ≤ maxLen) (ty : TypeId) :
    ∃ w', (Builtin.delete_ #[54, 9] ty #[.map (some b), .string s]).run Try.prog w = .ok (.tuple #[]) w' ∧ MapAt w' b n (upd m s.data.toList none) ∧ w.mapTurned w' b := by
  obtain ⟨D, h, h1, h2⟩ := h
  obtain ⟨w', hrun, hown, ht⟩ := h.drop law9 Try.underlying54 (key9 s hs) ty
  refine ⟨w', hrun, ⟨_, hown, fun k => ?_, fun k => ?_⟩, ht⟩
  · unfold upd
    by_cases e : k = s.data.toList
    · subst e
      rw [if_pos rfl, has_del_same]; rfl
    · rw [if_neg e, has_del_other (ne_lit e), h1]
  · unfold upd
    by_cases e : k = s.data.toList
    · subst e
      rw [if_pos rfl, atKey_del_same]; rfl
    · rw [if_neg e, atKey_del_other (ne_lit e), h2]

theorem MapAt.len (h : MapAt w b n m) (ty : TypeId) : ∃ c : Nat, c ≤ n ∧ (Builtin.len_ #[54] ty #[.map (some b)]).run Try.prog w = .ok (.int .i64 c) w := by
  obtain ⟨D, h, h1, h2⟩ := h
  exact ⟨Maps.size D, h.size_le, h.len Try.underlying54 ty⟩
end

/-- What turned: blocks of S alone; new ones may be there. -/
structure Keeps (S : Nat → Prop) (w w' : World) : Prop where
  os : w'.os = w.os
  tape : w'.tape = w.tape
  output : w'.output = w.output
  size : w.heap.size ≤ w'.heap.size
  block : ∀ k, k < w.heap.size → ¬ S k → w'.heap[k]? = w.heap[k]?

theorem Keeps.refl (S : Nat → Prop) (w : World) : Keeps S w w := ⟨rfl, rfl, rfl, Nat.le_refl _, fun _ _ _ => rfl⟩
theorem Keeps.trans {S S' : Nat → Prop} {a b c : World} (h : Keeps S a b) (k : Keeps S' b c) (hS : ∀ i, S' i → S i ∨ a.heap.size ≤ i) : Keeps S a c :=
  ⟨k.os.trans h.os, k.tape.trans h.tape, k.output.trans h.output, Nat.le_trans h.size k.size, fun i hi hn => (k.block i (Nat.lt_of_lt_of_le hi h.size) (fun hs => by rcases hS i hs with h' | h'; exact hn h'; omega)).trans (h.block i hi hn)⟩
theorem Keeps.mono {S S' : Nat → Prop} {w w' : World} (h : Keeps S w w') (hS : ∀ k, S k → S' k) : Keeps S' w w' := ⟨h.os, h.tape, h.output, h.size, fun k hk hn => h.block k hk (fun hs => hn (hS k hs))⟩
theorem Keeps.of_below {B : Nat} {S : Nat → Prop} {w w' : World} (h : Below B w w') (hS : ∀ k, B ≤ k → k < w.heap.size → S k) : Keeps S w w' :=
  ⟨h.os, h.tape, h.output, h.size, fun k hk hn => h.block k (Nat.lt_of_not_le fun hB => hn (hS k hB hk))⟩
theorem Keeps.of_new {S : Nat → Prop} {w w' : World} (h : Below w.heap.size w w') : Keeps S w w' := Keeps.of_below h fun k h1 h2 => by omega
theorem Keeps.below {B : Nat} {S : Nat → Prop} {w w' : World} (h : Keeps S w w') (hB : B ≤ w.heap.size) (hS : ∀ k, S k → B ≤ k) : Below B w w' :=
  ⟨h.os, h.tape, h.output, h.size, fun k hk => h.block k (by omega) (fun hs => by have := hS k hs; omega)⟩
theorem Keeps.setCell {S : Nat → Prop} {w w' : World} (h : Keeps S w w') {p : Addr} (hp : S p.block ∨ w.heap.size ≤ p.block) (u : Value) : Keeps S w (w'.setCell p u) :=
  h.trans (S' := fun k => k = p.block) ⟨rfl, rfl, rfl, by simp [World.setCell], fun k _ hk => Below.heap_setCell w' p u k hk⟩ (fun i hi => hi ▸ hp)
theorem Keeps.alloc {S : Nat → Prop} {w w' : World} (h : Keeps S w w') (o : Obj) : Keeps S w (w'.alloc o) :=
  h.trans (S' := fun _ => False) ⟨rfl, rfl, rfl, by simp, fun k hk _ => Below.heap_alloc _ _ _ hk⟩ (fun _ hi => hi.elim)
theorem Keeps.drewN {S : Nat → Prop} {w w' : World} (h : Keeps S w w') (n : Nat) : Keeps S w (w'.drewN n) := ⟨h.os, h.tape, h.output, h.size, h.block⟩
theorem Keeps.turned {S : Nat → Prop} {w w1 w' : World} {b : Nat} (h : Keeps S w w1) (ht : w1.mapTurned w' b) (hb : S b ∨ w.heap.size ≤ b) : Keeps S w w' :=
  h.trans (S' := fun k => k = b) ⟨ht.grown.os, ht.grown.tape, ht.grown.output, ht.grown.size, fun k hk hn => ht.grown.block k hk (by simpa using hn)⟩ (fun i hi => hi ▸ hb)
theorem Keeps.grown {S : Nat → Prop} {w w1 w' : World} {row : Option Nat} (h : Keeps S w w1) (hg : w1.grownBy w' row) (hr : ∀ k, row = some k → S k ∨ w.heap.size ≤ k) : Keeps S w w' :=
  h.trans (S' := fun k => row = some k) ⟨hg.os, hg.tape, hg.output, hg.size, fun k hk hn => hg.block k hk (fun e => hn e.symm)⟩ hr

theorem blk_lt' {w : World} {g : Nat} {o : Obj} (h : w.heap[g]? = some o) : g < w.heap.size := (Array.getElem?_eq_some_iff.1 h).1

/-- A slice of bytes that is read, in a block of S. -/
def BytesAt (w : World) (S : Nat → Prop) (v : Value) (l : List UInt8) : Prop :=
  (v = .slice none 0 0 ∧ l = []) ∨ ∃ (b off c : Nat) (cur : Array Value) (fr : Nat × Nat), v = .slice (some ⟨b, off, none⟩) l.length c ∧ l.length ≤ c ∧ c ≤ maxLen ∧ S b ∧ w.heap[b]? = some (.cells cur 5 fr) ∧ ∀ i, i < l.length → w.cell? ⟨b, off + i, none⟩ = some (.int .u8 ((l.getD i 0).toNat : Int))

theorem BytesAt.keep {w w' : World} {S S' : Nat → Prop} {v : Value} {l : List UInt8} (h : BytesAt w S v l) (hk : ∀ k, S k → k < w.heap.size → w'.heap[k]? = w.heap[k]?) (hS : ∀ k, S k → S' k) : BytesAt w' S' v l := by
  rcases h with h | ⟨b, off, c, cur, fr, h1, h2, h3, h5, h6, h7⟩
  · exact .inl h
  · refine .inr ⟨b, off, c, cur, fr, h1, h2, h3, hS _ h5, (hk _ h5 (blk_lt' h6)).trans h6, fun i hi => ?_⟩
    rw [World.cell?_of_block (w := w) (a := ⟨b, off + i, none⟩) (hk _ h5 (blk_lt' h6))]
    exact h7 i hi

theorem BytesAt.apart {w : World} {S : Nat → Prop} {v : Value} {l : List UInt8} (h : BytesAt w S v l) {p : Nat} (hp : ∀ cur fr, w.heap[p]? ≠ some (.cells cur 5 fr)) : BytesAt w (fun k => S k ∧ k ≠ p) v l := by
  rcases h with h | ⟨b, off, c, cur, fr, h1, h2, h3, h5, h6, h7⟩
  · exact .inl h
  · exact .inr ⟨b, off, c, cur, fr, h1, h2, h3, ⟨h5, fun e => hp cur fr (e ▸ h6)⟩, h6, h7⟩

theorem BytesAt.mono {w : World} {S S' : Nat → Prop} {v : Value} {l : List UInt8} (h : BytesAt w S v l) (hS : ∀ k, S k → S' k) : BytesAt w S' v l := h.keep (fun _ _ _ => rfl) hS

/-- Bytes as numbers. -/
def ints (l : List UInt8) : List Int := l.map fun b => (b.toNat : Int)
theorem ints_length (l : List UInt8) : (ints l).length = l.length := by simp [ints]
theorem ints_append (l m : List UInt8) : ints (l ++ m) = ints l ++ ints m := by simp [ints]
theorem ints_take (l : List UInt8) (n : Nat) : (ints l).take n = ints (l.take n) := by simp [ints, List.map_take]
theorem ints_inj {l m : List UInt8} (h : ints l = ints m) : l = m := by
  induction l generalizing m with
  | nil => cases m with
    | nil => rfl
    | cons y ys => simp [ints] at h
  | cons x xs ih => cases m with
    | nil => simp [ints] at h
    | cons y ys =>
      simp only [ints, List.map_cons, List.cons.injEq] at h
      obtain ⟨h1, h2⟩ := h
      have h3 : x = y := by
        have : x.toNat = y.toNat := by omega
        exact UInt8.toNat_inj.1 this
      rw [h3, ih h2]

theorem BytesAt.reads {w : World} {S : Nat → Prop} {v : Value} {l : List UInt8} (h : BytesAt w S v l) : ∃ A c, v = .slice A l.length c ∧ l.length ≤ c ∧ c ≤ maxLen ∧ ReadsInt w .u8 A l.length (ints l) := by
  rcases h with ⟨rfl, rfl⟩ | ⟨b, off, c, cur, fr, h1, h2, h3, h5, h6, h7⟩
  · exact ⟨none, 0, rfl, Nat.le_refl _, by simp [maxLen], rfl, by simp, fun h => absurd h (by simp)⟩
  · refine ⟨_, c, h1, h2, h3, ints_length l, by simp only [maxLen] at h3; omega, fun hl => ⟨_, rfl, fun j hj => ?_⟩⟩
    have e : (⟨b, off, none⟩ : Addr).add j = ⟨b, off + j, none⟩ := by unfold Addr.add; split <;> simp_all
    rw [e, h7 j hj]
    simp [ints, List.getD_eq_getElem?_getD, List.getElem?_eq_getElem hj]

theorem BytesAt.len {w : World} {S : Nat → Prop} {v : Value} {l : List UInt8} (h : BytesAt w S v l) : ∃ A c, v = .slice A l.length c ∧ l.length ≤ c ∧ c ≤ maxLen := by
  obtain ⟨A, c, h1, h2, h3, _⟩ := h.reads
  exact ⟨A, c, h1, h2, h3⟩

theorem BytesAt.of_own {w : World} {base : Nat} {S : Nat → Prop} {v : Value} {l : List UInt8} (h : w.ownsRow base 5 1 v l.length (nums .u8 (ints l))) (hS : ∀ k, v.ownBlock = some k → S k) : BytesAt w S v l := by
  rcases h.2 with ⟨rfl, h0⟩ | ⟨g, cap, cur, rfl, hb, hg, h1, h2, h3, h4⟩
  · exact .inl ⟨rfl, List.eq_nil_of_length_eq_zero h0⟩
  · refine .inr ⟨g, 0, cap, cur, _, rfl, h1, h2, hS g rfl, hg, fun i hi => ?_⟩
    have := h.cells (g := g) rfl i (.int .u8 ((l.getD i 0).toNat : Int)) (by simp [nums, ints, List.getElem?_eq_getElem hi, List.getD_eq_getElem?_getD])
    have e : (⟨g, 0, none⟩ : Addr).add i = ⟨g, 0 + i, none⟩ := by unfold Addr.add; split <;> simp_all
    rwa [e] at this

/-- The first bytes of a slice. -/
theorem BytesAt.take {w : World} {S : Nat → Prop} {A : Option Addr} {c : Nat} {l : List UInt8} (h : BytesAt w S (.slice A l.length c) l) (n : Nat) (hn : n ≤ l.length) : BytesAt w S (.slice A n c) (l.take n) := by
  rcases h with ⟨h1, rfl⟩ | ⟨b, off, c', cur, fr, h1, h2, h3, h5, h6, h7⟩
  · obtain rfl : n = 0 := by simpa using hn
    exact .inl ⟨h1, by simp⟩
  · cases h1
    have hl : (l.take n).length = n := by simp [hn]
    refine .inr ⟨b, off, c, cur, fr, by rw [hl], by omega, h3, h5, h6, fun i hi => ?_⟩
    rw [h7 i (by omega)]
    have : (l.take n)[i]? = l[i]? := by rw [List.getElem?_take, if_pos (by omega)]
    simp [List.getD_eq_getElem?_getD, this]

/-- A file: its bytes, at most L, and how many of them are sure. -/
def FileAt (w : World) (S : Nat → Prop) (f L : Nat) (x : List UInt8 × Nat) : Prop :=
  S f ∧ ∃ v, w.heap[f]? = some (.cells #[v, .int .i64 (x.2 : Int)] 60 (0, 0)) ∧ BytesAt w S v x.1 ∧ x.2 ≤ x.1.length ∧ x.1.length ≤ L

theorem FileAt.keep {w w' : World} {S S' : Nat → Prop} {f L : Nat} {x : List UInt8 × Nat} (h : FileAt w S f L x) (hk : ∀ k, S k → k < w.heap.size → w'.heap[k]? = w.heap[k]?) (hS : ∀ k, S k → S' k) : FileAt w' S' f L x := by
  obtain ⟨h1, v, h2, h3, h4⟩ := h
  exact ⟨hS _ h1, v, (hk f h1 (blk_lt h2)).trans h2, h3.keep hk hS, h4⟩

theorem FileAt.apart {w : World} {S : Nat → Prop} {f L : Nat} {x : List UInt8 × Nat} (h : FileAt w S f L x) {p : Nat} (hf : f ≠ p) (hp : ∀ cur fr, w.heap[p]? ≠ some (.cells cur 5 fr)) : FileAt w (fun k => S k ∧ k ≠ p) f L x := by
  obtain ⟨h1, v, h2, h3, h4⟩ := h
  exact ⟨⟨h1, hf⟩, v, h2, h3.apart hp, h4⟩

theorem FileAt.mono {w : World} {S : Nat → Prop} {f L L' : Nat} {x : List UInt8 × Nat} (h : FileAt w S f L x) (hL : L ≤ L') : FileAt w S f L' x := by
  obtain ⟨h1, v, h2, h3, h4, h5⟩ := h
  exact ⟨h1, v, h2, h3, h4, Nat.le_trans h5 hL⟩

structure Disk where
  room : Int
  fuse : Int
  steps : Int
  down : Bool
  names : List UInt8 → Option Nat
  sure : List UInt8 → Option Nat
  file : Nat → List UInt8 × Nat

def Disk.refs (A : Disk) (f : Nat) : Prop := ∃ k, A.names k = some f ∨ A.sure k = some f

def diskCells (A : Disk) (nb sb : Nat) : Array Value := #[.int .i64 A.room, .map (some nb), .map (some sb), .int .i64 A.fuse, .int .i64 A.steps, .bool A.down]

/-- A DISK: its own blocks are S; its maps have at most N entries each, its files at most L bytes each. -/
structure DiskIn (w : World) (S : Nat → Prop) (d nb sb N L : Nat) (A : Disk) : Prop where
  sd : S d
  sn : S nb
  ss : S sb
  ne : nb ≠ sb
  blk : w.heap[d]? = some (.cells (diskCells A nb sb) 56 (0, 0))
  names : MapAt w nb N A.names
  sure : MapAt w sb N A.sure
  files : ∀ f, A.refs f → FileAt w S f L (A.file f)

def DiskAt (w : World) (S : Nat → Prop) (d N L : Nat) (A : Disk) : Prop := ∃ nb sb, DiskIn w S d nb sb N L A

section
variable {w w' : World} {S S' : Nat → Prop} {d nb sb N L : Nat} {A A' : Disk}

theorem MapAt.block {w : World} {b n : Nat} {m : List UInt8 → Option Nat} (h : MapAt w b n m) : ∃ es clock, w.heap[b]? = some (.map es clock) := by
  obtain ⟨D, ⟨es, clock, hb, _⟩, _⟩ := h
  exact ⟨es, clock, hb⟩

theorem DiskIn.keep (h : DiskIn w S d nb sb N L A) (hk : ∀ k, S k → k < w.heap.size → w'.heap[k]? = w.heap[k]?) (hS : ∀ k, S k → S' k) : DiskIn w' S' d nb sb N L A :=
  ⟨hS _ h.sd, hS _ h.sn, hS _ h.ss, h.ne, (hk _ h.sd (blk_lt h.blk)).trans h.blk, h.names.keep (hk _ h.sn h.names.lt), h.sure.keep (hk _ h.ss h.sure.lt), fun f hf => (h.files f hf).keep hk hS⟩

theorem DiskIn.mono (h : DiskIn w S d nb sb N L A) {N' L' : Nat} (hN : N ≤ N') (hL : L ≤ L') : DiskIn w S d nb sb N' L' A :=
  ⟨h.sd, h.sn, h.ss, h.ne, h.blk, h.names.mono hN, h.sure.mono hN, fun f hf => (h.files f hf).mono hL⟩

theorem DiskIn.d_ne_n (h : DiskIn w S d nb sb N L A) : d ≠ nb := fun e => by
  obtain ⟨es, c, hb⟩ := h.names.block
  have := h.blk
  rw [e, hb] at this
  cases this
theorem DiskIn.d_ne_s (h : DiskIn w S d nb sb N L A) : d ≠ sb := fun e => by
  obtain ⟨es, c, hb⟩ := h.sure.block
  have := h.blk
  rw [e, hb] at this
  cases this
theorem FileAt.ne_map {w : World} {S : Nat → Prop} {f L b n : Nat} {x : List UInt8 × Nat} {m : List UInt8 → Option Nat} (h : FileAt w S f L x) (hm : MapAt w b n m) : f ≠ b := fun e => by
  obtain ⟨es, c, hb⟩ := hm.block
  obtain ⟨_, v, h2, _⟩ := h
  rw [e, hb] at h2
  cases h2
theorem FileAt.ne_d (h : DiskIn w S d nb sb N L A) {f L' : Nat} {x : List UInt8 × Nat} (hf : FileAt w S f L' x) : f ≠ d := fun e => by
  obtain ⟨_, v, h2, _⟩ := hf
  have := h.blk
  rw [← e, h2] at this
  cases this

theorem MapAt.not5 {w : World} {b n : Nat} {m : List UInt8 → Option Nat} (h : MapAt w b n m) (cur : Array Value) (fr : Nat × Nat) : w.heap[b]? ≠ some (.cells cur 5 fr) := fun e => by
  obtain ⟨es, c, hb⟩ := h.block
  rw [hb] at e
  cases e
theorem DiskIn.not5 (h : DiskIn w S d nb sb N L A) (cur : Array Value) (fr : Nat × Nat) : w.heap[d]? ≠ some (.cells cur 5 fr) := fun e => by
  rw [h.blk] at e
  injection e with e; injection e with _ e; cases e
theorem FileAt.not5 {w : World} {S : Nat → Prop} {f L : Nat} {x : List UInt8 × Nat} (h : FileAt w S f L x) (cur : Array Value) (fr : Nat × Nat) : w.heap[f]? ≠ some (.cells cur 5 fr) := fun e => by
  obtain ⟨_, v, h2, _⟩ := h
  rw [h2] at e
  injection e with e; injection e with _ e; cases e

/-- The disk's own block turned. -/
theorem DiskIn.own (h : DiskIn w S d nb sb N L A) (hd : w'.heap[d]? = some (.cells (diskCells A' nb sb) 56 (0, 0))) (hk : ∀ k, k ≠ d → k < w.heap.size → w'.heap[k]? = w.heap[k]?) (h1 : A'.names = A.names) (h2 : A'.sure = A.sure) (h3 : A'.file = A.file) :
    DiskIn w' S d nb sb N L A' := by
  refine ⟨h.sd, h.sn, h.ss, h.ne, hd, ?_, ?_, fun f hf => ?_⟩
  · rw [h1]; exact h.names.keep (hk _ (Ne.symm h.d_ne_n) h.names.lt)
  · rw [h2]; exact h.sure.keep (hk _ (Ne.symm h.d_ne_s) h.sure.lt)
  · have hf' := h.files f (by unfold Disk.refs at hf ⊢; rw [← h1, ← h2]; exact hf)
    rw [h3]
    exact (hf'.apart (FileAt.ne_d h hf') h.not5).keep (fun k hs hlt => hk k hs.2 hlt) (fun k hs => hs.1)

/-- The names turned. -/
theorem DiskIn.named (h : DiskIn w S d nb sb N L A) {N' : Nat} (hN : N ≤ N') {m : List UInt8 → Option Nat} (hm : MapAt w' nb N' m) (hk : ∀ k, k ≠ nb → k < w.heap.size → w'.heap[k]? = w.heap[k]?) (hf : ∀ f, ({ A with names := m } : Disk).refs f → A.refs f) :
    DiskIn w' S d nb sb N' L { A with names := m } := by
  refine ⟨h.sd, h.sn, h.ss, h.ne, (hk _ h.d_ne_n (blk_lt h.blk)).trans h.blk, hm, (h.sure.keep (hk _ (Ne.symm h.ne) h.sure.lt)).mono hN, fun f hr => ?_⟩
  have hf' := h.files f (hf f hr)
  exact (hf'.apart (hf'.ne_map h.names) h.names.not5).keep (fun k hs hlt => hk k hs.2 hlt) (fun k hs => hs.1)

/-- A file turned. -/
theorem DiskIn.filed (h : DiskIn w S d nb sb N L A) {f L' : Nat} (hr : A.refs f) (hL : L ≤ L') {x : List UInt8 × Nat} (hx : FileAt w' S f L' x) (hk : ∀ k, k ≠ f → k < w.heap.size → w'.heap[k]? = w.heap[k]?) :
    DiskIn w' S d nb sb N L' { A with file := fun i => if i = f then x else A.file i } := by
  have hf := h.files f hr
  have n1 : d ≠ f := Ne.symm (FileAt.ne_d h hf)
  have n2 : nb ≠ f := Ne.symm (hf.ne_map h.names)
  have n3 : sb ≠ f := Ne.symm (hf.ne_map h.sure)
  refine ⟨h.sd, h.sn, h.ss, h.ne, (hk _ n1 (blk_lt h.blk)).trans h.blk, h.names.keep (hk _ n2 h.names.lt), h.sure.keep (hk _ n3 h.sure.lt), fun g hg => ?_⟩
  have hg' := h.files g hg
  show FileAt w' S g L' (if g = f then x else A.file g)
  by_cases e : g = f
  · rw [if_pos e, e]; exact hx
  · rw [if_neg e]
    exact ((hg'.apart e hf.not5).keep (fun k hs hlt => hk k hs.2 hlt) (fun k hs => hs.1)).mono hL

/-- A file more, that no name has yet. -/
theorem DiskIn.more (h : DiskIn w S d nb sb N L A) {f : Nat} {x : List UInt8 × Nat} (hr : ¬ A.refs f) : DiskIn w S d nb sb N L { A with file := fun i => if i = f then x else A.file i } :=
  ⟨h.sd, h.sn, h.ss, h.ne, h.blk, h.names, h.sure, fun g hg => by
    show FileAt w S g L (if g = f then x else A.file g)
    rw [if_neg (fun e : g = f => hr (e ▸ hg))]
    exact h.files g hg⟩
end

end Go.Proofs.Ytolpgajodhondaa
