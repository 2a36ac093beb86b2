/- What a step leaves of a file whose bytes and name are sure. -/
import Derived.Test.YtolpgajodhondaaR10
namespace Go.Proofs.Ytolpgajodhondaa
open Go.RowKit Go.Maps Go.Sort Go.WideMaps Go.Proofs.YtolpgajodhondaaW.PrintWords

/-- The file named K, and no other name's, has the bytes x, of which at least n are sure, as its name is. -/
structure Keeping (A : Disk) (K : List UInt8) (n : Nat) (x : List UInt8) : Prop where
  has : ∃ f s, A.names K = some f ∧ A.sure K = some f ∧ (∀ k, A.names k = some f → k = K) ∧ (∀ k, A.sure k = some f → k = K) ∧ A.file f = (x, s) ∧ n ≤ s ∧ s ≤ x.length

theorem step_cases (A : Disk) : A.step.1.names = A.names ∧ A.step.1.sure = A.sure ∧ A.step.1.file = A.file ∧ A.step.1.room = A.room := by
  unfold Disk.step
  split
  · exact ⟨rfl, rfl, rfl, rfl⟩
  · split <;> exact ⟨rfl, rfl, rfl, rfl⟩

theorem Keeping.of_eq {A B : Disk} {K : List UInt8} {n : Nat} {x : List UInt8} (h : Keeping A K n x) (h1 : B.names = A.names) (h2 : B.sure = A.sure) (h3 : B.file = A.file) : Keeping B K n x := by
  obtain ⟨f, s, r⟩ := h.has
  exact ⟨f, s, by rw [h1, h2, h3]; exact r⟩

theorem Keeping.step {A : Disk} {K : List UInt8} {n : Nat} {x : List UInt8} (h : Keeping A K n x) : Keeping A.step.1 K n x :=
  h.of_eq (step_cases A).1 (step_cases A).2.1 (step_cases A).2.2.1

theorem Keeping.append1 {A : Disk} {K : List UInt8} {n : Nat} {x : List UInt8} (h : Keeping A K n x) (ok full : Bool) (g : Nat) (hg : ∀ f, A.refs f → f < g) (k b : List UInt8) :
    Keeping (A.append1 ok full g k b).1 K n (if k = K ∧ (A.append1 ok full g k b).2 = 0 then x ++ b else x) := by
  obtain ⟨f, s, h1, h2, h3, h4, h5, h6, h7⟩ := h.has
  have hfg : f < g := hg f ⟨K, .inl h1⟩
  have hne : f ≠ g := by omega
  unfold Disk.append1
  by_cases ho : ok = false
  · rw [if_pos ho, if_neg (by simp)]
    exact h
  · rw [if_neg ho]
    by_cases hf : full = true
    · rw [if_pos hf, if_neg (by simp)]
      exact h
    · rw [if_neg hf]
      cases e : A.names k with
      | none =>
        have hkK : k ≠ K := fun e' => by rw [e', h1] at e; cases e
        simp only [hkK, false_and, if_false]
        refine ⟨f, s, ?_, h2, ?_, h4, ?_, h6, h7⟩
        · show upd A.names k (some g) K = some f
          unfold upd
          rw [if_neg (fun e' => hkK e'.symm)]
          exact h1
        · intro k' hk'
          have hk' : upd A.names k (some g) k' = some f := hk'
          unfold upd at hk'
          split at hk'
          · cases hk'; exact absurd rfl hne
          · exact h3 k' hk'
        · show (if f = g then _ else A.file f) = _
          rw [if_neg hne]
          exact h5
      | some f' =>
        by_cases hff : f' = f
        · subst hff
          have hkK : k = K := h3 k e
          subst hkK
          simp only [true_and, if_true]
          refine ⟨f', s, h1, h2, h3, h4, ?_, h6, ?_⟩
          · show (if f' = f' then _ else _) = _
            rw [if_pos rfl, h5]
          · rw [List.length_append]; omega
        · have hkK : k ≠ K := fun e' => by rw [e', h1] at e; cases e; exact hff rfl
          simp only [hkK, false_and, if_false]
          refine ⟨f, s, h1, h2, h3, h4, ?_, h6, h7⟩
          show (if f = f' then _ else A.file f) = _
          rw [if_neg (fun e' => hff e'.symm)]
          exact h5

theorem Keeping.sync1 {A : Disk} {K : List UInt8} {n : Nat} {x : List UInt8} (h : Keeping A K n x) (k : List UInt8) : Keeping (A.sync1 k).1 K n x := by
  obtain ⟨f, s, h1, h2, h3, h4, h5, h6, h7⟩ := h.has
  unfold Disk.sync1
  cases e : A.names k with
  | none => exact h
  | some f' =>
    by_cases hff : f' = f
    · subst hff
      refine ⟨f', x.length, h1, h2, h3, h4, ?_, by omega, Nat.le_refl _⟩
      show (if f' = f' then _ else _) = _
      rw [if_pos rfl, h5]
    · refine ⟨f, s, h1, h2, h3, h4, ?_, h6, h7⟩
      show (if f = f' then _ else A.file f) = _
      rw [if_neg (fun e' => hff e'.symm)]
      exact h5

theorem Keeping.remove1 {A : Disk} {K : List UInt8} {n : Nat} {x : List UInt8} (h : Keeping A K n x) (k : List UInt8) (hk : k ≠ K) : Keeping (A.remove1 k).1 K n x := by
  obtain ⟨f, s, h1, h2, h3, h4, h5, h6, h7⟩ := h.has
  unfold Disk.remove1
  cases e : A.names k with
  | none => exact h
  | some f' =>
    refine ⟨f, s, ?_, h2, ?_, h4, h5, h6, h7⟩
    · show upd A.names k none K = some f
      unfold upd
      rw [if_neg (fun e' => hk e'.symm)]
      exact h1
    · intro k' hk'
      have hk' : upd A.names k none k' = some f := hk'
      unfold upd at hk'
      split at hk'
      · cases hk'
      · exact h3 k' hk'

theorem Keeping.rename1 {A : Disk} {K : List UInt8} {n : Nat} {x : List UInt8} (h : Keeping A K n x) (ok : Bool) (k t : List UInt8) (hk : k ≠ K) (ht : t ≠ K) : Keeping (A.rename1 ok k t).1 K n x := by
  obtain ⟨f, s, h1, h2, h3, h4, h5, h6, h7⟩ := h.has
  unfold Disk.rename1
  cases e : A.names k with
  | none => exact h
  | some f' =>
    by_cases ho : ok = true
    · simp only [ho, if_true]
      have hff : f' ≠ f := fun e' => hk (h3 k (by rw [e, e']))
      refine ⟨f, s, ?_, h2, ?_, h4, h5, h6, h7⟩
      · show upd (upd A.names k none) t (some f') K = some f
        unfold upd
        rw [if_neg (fun e' => ht e'.symm), if_neg (fun e' => hk e'.symm)]
        exact h1
      · intro k' hk'
        have hk' : upd (upd A.names k none) t (some f') k' = some f := hk'
        unfold upd at hk'
        split at hk'
        · cases hk'; exact absurd rfl hff
        · split at hk'
          · cases hk'
          · exact h3 k' hk'
    · simp only [ho]
      exact h

theorem Keeping.syncNames {A : Disk} {K : List UInt8} {n : Nat} {x : List UInt8} (h : Keeping A K n x) : Keeping A.syncNames.1 K n x := by
  unfold Disk.syncNames
  split
  · exact h.step
  · obtain ⟨f, s, h1, h2, h3, h4, h5, h6, h7⟩ := h.step.has
    exact ⟨f, s, h1, h1, h3, h3, h5, h6, h7⟩

/-- A step that does not touch the name. -/
theorem Keeping.after {A A' : Disk} {K : List UInt8} {n : Nat} {x : List UInt8} {sz N L : Nat} {k : Int} {a b : ByteArray} {m r : Int} (h : Keeping A K n x) (hr : DoRel sz N L A k a b m A' r) (hlow : ∀ f, A.refs f → f < sz)
    (g4 : k ≤ 4) (g2 : k = 2 → a.data.toList ≠ K ∧ b.data.toList ≠ K) (g3 : k = 3 → a.data.toList ≠ K) :
    Keeping A' K n (if k = 0 ∧ a.data.toList = K ∧ r = 0 then x ++ b.data.toList else x) := by
  rcases hr with ⟨rfl, ok, full, g, _, _, hg, e⟩ | ⟨rfl, e⟩ | ⟨rfl, ok, e⟩ | ⟨rfl, e⟩ | ⟨rfl, e⟩ | ⟨rfl, e⟩ | ⟨hk, e⟩
  · by_cases hs : A.step.2 = 0
    · rw [if_neg (fun h' => h' hs)] at e
      have e1 := congrArg Prod.fst e
      have e2 := congrArg Prod.snd e
      simp only at e1 e2
      rw [e1, e2]
      simp only [true_and]
      refine h.step.append1 ok full g (fun f hf => Nat.lt_of_lt_of_le (hlow f ?_) hg) _ _
      obtain ⟨k, hk⟩ := hf
      rw [(step_cases A).1, (step_cases A).2.1] at hk
      exact ⟨k, hk⟩
    · rw [if_pos hs] at e
      have e1 := congrArg Prod.fst e
      have e2 := congrArg Prod.snd e
      simp only at e1 e2
      rw [e1, e2, if_neg (fun h' => hs h'.2.2)]
      exact h.step
  all_goals rw [if_neg (fun h' => absurd h'.1 (by omega))]
  all_goals have e1 := congrArg Prod.fst e
  all_goals simp only at e1
  all_goals rw [e1]
  · unfold Disk.sync
    split
    · exact h.step
    · exact h.step.sync1 _
  · split
    · exact h.step
    · exact h.step.rename1 _ _ _ (g2 rfl).1 (g2 rfl).2
  · unfold Disk.remove
    split
    · exact h.step
    · exact h.step.remove1 _ (g3 rfl)
  · exact h.syncNames
  · omega
  · exact h

/-- Behind a loss of power. -/
theorem Keeping.crash {A : Disk} {K : List UInt8} {n : Nat} {x : List UInt8} {cut : List Nat} {ts : List (List UInt8)} {m : List UInt8 → Option Nat} {F : Nat → List UInt8 × Nat} (h : Keeping A K n x) (hc : CrashKept A cut ts m F) :
    ∃ g c, m K = some g ∧ (F g).1 = x.take c ∧ n ≤ c ∧ c ≤ x.length := by
  obtain ⟨f, s, h1, h2, h3, h4, h5, h6, h7⟩ := h.has
  obtain ⟨g, hg⟩ := Option.isSome_iff_exists.1 (hc.stay K f h1 h2)
  obtain ⟨f', i, hf, _, hF⟩ := hc.came K g hg
  have hff : f' = f := by
    rcases hf with h' | h'
    · rw [h2] at h'; cases h'; rfl
    · rw [h1] at h'; cases h'; rfl
  subst hff
  refine ⟨g, cutLen cut i s x.length, hg, ?_, Nat.le_trans h6 (cutLen_ge ..), cutLen_le _ _ _ _ h7⟩
  rw [hF, h5]
  rfl

end Go.Proofs.Ytolpgajodhondaa
