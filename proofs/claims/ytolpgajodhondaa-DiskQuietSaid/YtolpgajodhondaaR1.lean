/- The document's disk: its maps of names to numbers. -/
import Derived.Test.YtolpgajodhondaaD16
import Derived.Lib.SlMapEqual
namespace Go.Proofs.Ytolpgajodhondaa
open Go.RowKit Go.Maps Go.Sort Go.WideMaps Go.Proofs.YtolpgajodhondaaW.PrintWords

/-- How a number reads. -/
def numElem (v : Value) : Option (DataW Unit × List MemPlace) :=
  match v with
  | .int .i64 c => if 0 ≤ c then some (.lit (.int .i64 c), []) else none
  | _ => none

theorem numElem_num (n : Nat) : numElem (.int .i64 n) = some (.lit (.int .i64 n), []) := by simp [numElem]

theorem numElem_inv {v : Value} {z : DataW Unit × List MemPlace} (h : numElem v = some z) : ∃ n : Nat, v = .int .i64 n ∧ z = (.lit (.int .i64 n), []) := by
  unfold numElem at h
  split at h
  · rename_i c
    split at h
    · rename_i h0
      cases h
      exact ⟨c.toNat, by rw [Int.toNat_of_nonneg h0], by rw [Int.toNat_of_nonneg h0]⟩
    · cases h
  · cases h

/-- BLOCK b IS A MAP OF AT MOST n ENTRIES, OF TEXTS TO NUMBERS BELOW c. -/
def NumAt (w : World) (b n c : Nat) : Prop :=
  ∃ D : DataW Unit, w.ownsMap Try.prog 9 numElem b n D ∧ ∀ k, Maps.has D (.string k) = true → ∃ i : Nat, i < c ∧ D.atKey (.string k) .nil = .lit (.int .i64 i)

theorem NumAt.lt {w : World} {b n c : Nat} (h : NumAt w b n c) : b < w.heap.size := by
  obtain ⟨D, h, _⟩ := h
  exact h.lt
theorem NumAt.mono {w : World} {b n n' c c' : Nat} (h : NumAt w b n c) (hn : n ≤ n') (hc : c ≤ c') : NumAt w b n' c' := by
  obtain ⟨D, h, r⟩ := h
  exact ⟨D, h.mono hn, fun k hk => by obtain ⟨i, h1, h2⟩ := r k hk; exact ⟨i, by omega, h2⟩⟩
theorem NumAt.keep {w w' : World} {b n c : Nat} (h : NumAt w b n c) (hb : w'.heap[b]? = w.heap[b]?) : NumAt w' b n c := by
  obtain ⟨D, h, r⟩ := h
  exact ⟨D, ownsMap_block h hb, r⟩
theorem NumAt.empty {w : World} {b : Nat} (hb : w.heap[b]? = some (.map #[] 0)) (c : Nat) : NumAt w b 0 c :=
  ⟨.map [], ⟨#[], 0, hb, ⟨by simp, MapKept.stamped_empty 0, by simp⟩, Nat.le_refl _, rfl⟩, fun _ h => by simp [Maps.has] at h⟩

theorem zero3 (w : World) : (zeroValue 3).run Try.prog w = .ok (.int .i64 (0 : Nat)) w := by kernel_rfl

theorem NumAt.lookOk {w : World} {b n c : Nat} (h : NumAt w b n c) (s : ByteArray) (hs : s.size ≤ maxLen) :
    ∃ (i : Nat) (ok : Bool), (Instr.lookup 63 (.map (some b)) (.string s) true).run Try.prog w = .ok (.tuple #[.int .i64 i, .bool ok]) w ∧ (ok = true → i < c) := by
  obtain ⟨D, h, h1⟩ := h
  obtain ⟨v, ps, hrun, hv⟩ := h.look_ok law9 Try.underlying63 (zero3 w) (numElem_num 0) (key9 s hs)
  obtain ⟨i, rfl, he⟩ := numElem_inv hv
  refine ⟨i, _, hrun, fun hk => ?_⟩
  obtain ⟨j, h2, h3⟩ := h1 _ hk
  have e1 := congrArg Prod.fst he
  simp only at e1
  have e2 : D.atKey (.string s.data.toList) (.lit (.int .i64 (0 : Nat))) = .lit (.int .i64 j) := by
    rw [← h3]
    exact atKey_indep hk _ _
  rw [e2] at e1
  injection e1 with e1
  injection e1 with _ e1
  omega

theorem NumAt.store {w : World} {b n c : Nat} (h : NumAt w b n c) (hn : n < maxLen) (s : ByteArray) (hs : s.size ≤ maxLen) (i : Nat) (hi : i < c) :
    ∃ w', (Instr.mapUpdate 63 (.map (some b)) (.string s) (.int .i64 i)).run Try.prog w = .ok () w' ∧ NumAt w' b (n + 1) c ∧ w.mapTurned w' b := by
  obtain ⟨D, h, h1⟩ := h
  obtain ⟨w', hrun, hown, ht⟩ := h.store law9 Try.underlying63 hn (key9 s hs) (numElem_num i)
  refine ⟨w', hrun, ⟨_, hown, fun k hk => ?_⟩, ht⟩
  by_cases e : k = s.data.toList
  · subst e
    exact ⟨i, hi, atKey_put_same h.isMap (isKey _) _ _⟩
  · rw [has_put_other (ne_lit e)] at hk
    obtain ⟨j, h2, h3⟩ := h1 k hk
    exact ⟨j, h2, by rw [atKey_put_other (ne_lit e), h3]⟩

end Go.Proofs.Ytolpgajodhondaa
