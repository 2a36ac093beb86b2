/- A disk's names, rising. -/
import Derived.Test.YtolpgajodhondaaD10
import Derived.Test.YtolpgajodhondaaIter
namespace Go.Proofs.Ytolpgajodhondaa
open Go.RowKit Go.Maps Go.Sort Go.WideMaps Go.Proofs.YtolpgajodhondaaW.PrintWords

/-- Append, whatever it comes to. -/
theorem append_any (w : World) (S : Nat → Prop) (d nb sb N L : Nat) (A : Disk) (s : ByteArray) (b : List UInt8) (P : Option Addr) (c : Nat) (hs : s.size ≤ maxLen) (hN : N < maxLen) (hNL : N * L ≤ 4611686018427387903) (hL : L + b.length ≤ 1152921504606) (hr : ReadsInt w .u8 P b.length (ints b)) (hPS : ∀ a, P = some a → ¬ S a.block) (h : DiskIn w S d nb sb N L A) :
    Calls Try.prog 8 #[.pointer (some ⟨d, 0, none⟩), .string s, .slice P b.length c] w (AppendPost w S d nb sb N L A.step s b) := by
  have hst := step_any w S d nb sb N L A h
  clear h
  generalize A.step = st at *
  obtain ⟨B, r⟩ := st
  by_cases hr0 : r = 0
  · subst hr0
    cases hm : B.names s.data.toList with
    | none => exact append_none w S d nb sb N L B s b P c hs hN hNL hL hr hst hm hPS
    | some f => exact append_some w S d nb sb N L B s b P c f hs hNL hL hr hst hm hPS
  · have hr' : (r != 0) = true := by rw [bne_iff_ne]; exact hr0
    have hr2 := Aside0.mk hr0
    clear hr0 hr
    go_enter Try.func8, Try.ntmps8
    go_wp2_with (go_at_call 24; refine hst.mono ?_; rintro e w1 ⟨rfl, hin, hk, hsz⟩)
    go_ret
    refine ⟨true, false, w.heap.size, fun _ => rfl, fun _ _ => rfl, Nat.le_refl _, ?_⟩
    rw [if_pos (by simpa using hr2.out)]
    exact ⟨rfl, more_keep (hin.mono (Nat.le_succ _) (Nat.le_add_right _ _)), hk⟩

theorem keysFn_any (mb : Option Nat) (W : World) : Calls Try.prog 34 #[.map mb] W fun e w' => e = .returned (.func (.func 45) #[] #[.pointer (some ⟨W.heap.size, 0, none⟩)]) ∧ w' = W.alloc (.cells #[.map mb] 54) :=
  (callsIn_wide (n := 5)).1 (Try.maps_Keys_34 mb W)

/-- Texts, each once, those that a map has. -/
structure KeysOfMap (m : List UInt8 → Option Nat) (n : Nat) (ks : List (List UInt8)) : Prop where
  mem : ∀ k, k ∈ ks ↔ (m k).isSome = true
  nodup : ks.Nodup
  len : ks.length ≤ n
  short : ∀ k ∈ ks, k.length ≤ maxLen

theorem strKeys_mem {es : List (Lit × DataW Unit)} (hk : ∀ p ∈ es, ∃ x, p.1 = .string x) (x : List UInt8) : x ∈ strKeys (.map es) ↔ Maps.has (.map es) (.string x) = true := by
  rw [Maps.has_eq, List.any_eq_true]
  constructor
  · intro h
    obtain ⟨p, hp, rfl⟩ := List.mem_map.1 h
    obtain ⟨y, hy⟩ := hk p hp
    exact ⟨p, hp, by rw [hy]; exact WideAt.sameKey_self (isKey _)⟩
  · rintro ⟨p, hp, hs⟩
    refine List.mem_map.2 ⟨p, hp, ?_⟩
    rw [WideAt.sameKey_eq hs]
    rfl

theorem strKeys_nodup : ∀ {es : List (Lit × DataW Unit)}, (∀ p ∈ es, ∃ x, p.1 = .string x) → es.Pairwise (fun p q => p.1 ≠ q.1) → (strKeys (.map es)).Nodup
  | [], _, _ => List.nodup_nil
  | p :: r, hk, hd => by
    obtain ⟨hd1, hd2⟩ := List.pairwise_cons.1 hd
    have ih := strKeys_nodup (es := r) (fun q hq => hk q (by simp [hq])) hd2
    refine List.nodup_cons.2 ⟨fun h => ?_, ih⟩
    obtain ⟨q, hq, e⟩ := List.mem_map.1 h
    obtain ⟨x, hx⟩ := hk p (by simp)
    obtain ⟨y, hy⟩ := hk q (by simp [hq])
    have := hd1 q hq
    rw [hx, hy] at this
    simp only [hx, hy, strOf] at e
    exact this (by rw [e])

theorem keysOfMap {w : World} {b n : Nat} {D : DataW Unit} {m : List UInt8 → Option Nat} (hown : w.ownsMap Try.prog 9 ptrElem b n D) (hh : ∀ k, Maps.has D (.string k) = (m k).isSome) {ks : List (List UInt8)} (hp : ks.Perm (strKeys D)) : KeysOfMap m n ks := by
  obtain ⟨es, rfl, hap, hkey⟩ := hown.entries law9
  have hk : ∀ p ∈ es, ∃ x, p.1 = .string x := by
    intro p hp
    obtain ⟨es', e, hk⟩ := hown.keysOf
    cases e
    obtain ⟨v, hk'⟩ := hk p hp
    obtain ⟨x, _, hx, _⟩ := Maps.keyOf_str Try.underlying9 hk'
    exact ⟨x, hx⟩
  refine ⟨fun k => ?_, hp.nodup_iff.2 (strKeys_nodup hk hap), ?_, fun k hk' => strKeys_le hown Try.underlying9 k (hp.mem_iff.1 hk')⟩
  · rw [hp.mem_iff, strKeys_mem hk, hh]
  · rw [hp.length_eq]
    have := hown.size_le
    simpa [strKeys, Maps.size] using this

def SortedPost (w : World) (m : List UInt8 → Option Nat) (n : Nat) (e : Ending) (w' : World) : Prop :=
  ∃ (v : Value) (ks : List (List UInt8)), e = .returned v ∧ KeysOfMap m n ks ∧ w'.ownsRow w.heap.size 9 1 v ks.length (ks.map encStr) ∧ Below w.heap.size w w'

theorem sorted_any (w : World) (b n : Nat) (m : List UInt8 → Option Nat) (h : MapAt w b n m) (hn : n ≤ 8796093022207) :
    Calls Try.prog 33 #[.func (.func 45) #[] #[.pointer (some ⟨w.heap.size, 0, none⟩)]] (w.alloc (.cells #[.map (some b)] 54)) (SortedPost w m n) := by
  obtain ⟨D, hown, hh, _⟩ := h
  have hs := hown.size_le
  refine ((callsIn_wide (n := 5)).1 (Try.slices_Sorted_keys_33_34 b n D ptrElem w hown (by unfold maxLen; omega) (by omega))).mono ?_
  rintro e w' ⟨v, ss, he, hp, hrow, hnil, hb⟩
  have hp2 := (List.mergeSort_perm ss (fun x y => decide (x ≤ y))).trans hp
  refine ⟨v, _, he, keysOfMap hown hh hp2, ?_, ((Below.refl _ w).alloc (Nat.le_refl _) _).trans (hb.mono (by simp))⟩
  have hl : (ss.mergeSort (fun x y => decide (x ≤ y))).length = ss.length := List.length_mergeSort ss
  rw [hl]
  exact own_weaken hrow (by simp)

def NamesPost (w : World) (A : Disk) (n : Nat) (e : Ending) (w' : World) : Prop :=
  ∃ (v : Value) (ks : List (List UInt8)), e = .returned v ∧ ((A.down = true ∧ ks = []) ∨ (A.down = false ∧ KeysOfMap A.names n ks)) ∧ w'.ownsRow w.heap.size 9 1 v ks.length (ks.map encStr) ∧ Below w.heap.size w w'

theorem names_any (w : World) (S : Nat → Prop) (d nb sb N L : Nat) (A : Disk) (hN : N ≤ 8796093022207) (h : DiskIn w S d nb sb N L A) :
    Calls Try.prog 17 #[.pointer (some ⟨d, 0, none⟩)] w (NamesPost w A N) := by
  have c5 : w.cell? ⟨d, 5, none⟩ = some (.bool A.down) := h.cells.1 5
  have c1 : w.cell? ⟨d, 1, none⟩ = some (.map (some nb)) := h.cells.1 1
  have hs := Aside0.mk (sorted_any w nb N A.names h.names hN)
  clear h
  cases hd : A.down with
  | true =>
    rw [hd] at c5
    have HD := Aside0.mk hd
    clear hd
    go_enter Try.func17, Try.ntmps17
    go_wp2
    go_ret
    exact ⟨_, [], rfl, .inl ⟨HD.out, rfl⟩, own_nil _ _ _ _, Below.refl _ _⟩
  | false =>
    rw [hd] at c5
    have HD := Aside0.mk hd
    clear hd
    go_enter Try.func17, Try.ntmps17
    go_wp2_with (first
      | (go_at_call 34; refine (keysFn_any _ _).mono ?_; rintro e w' ⟨rfl, rfl⟩)
      | (go_at_call 33; refine hs.out.mono ?_; rintro e w' ⟨v, ks, rfl, hk, hrow, hb⟩))
    go_ret
    exact ⟨v, ks, rfl, .inr ⟨HD.out, hk⟩, hrow, hb⟩

end Go.Proofs.Ytolpgajodhondaa
