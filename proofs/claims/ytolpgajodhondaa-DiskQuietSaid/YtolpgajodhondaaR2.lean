/- The document's disk: names copied, and without one. -/
import Derived.Test.YtolpgajodhondaaR1
namespace Go.Proofs.Ytolpgajodhondaa
open Go.RowKit Go.Maps Go.Sort Go.WideMaps Go.Proofs.YtolpgajodhondaaW.PrintWords

theorem invN : ∀ v y, numElem v = some y → ∃ c : Nat, v = (fun n : Nat => Value.int .i64 n) c := fun v y hv => by obtain ⟨o, rfl, _⟩ := numElem_inv hv; exact ⟨o, rfl⟩

/-- The map that is made: how many entries it may have. -/
def CopyRel (w : World) (b g it N c : Nat) (D : DataW Unit) (wr : World) : Prop :=
  ∃ left cnt k, wr.ranges Try.prog 9 numElem b it N D left cnt ∧ NumAt wr g k c ∧ k + cnt ≤ N ∧ Below w.heap.size w wr

def MapPost (w : World) (N c : Nat) (e : Ending) (w' : World) : Prop := ∃ g, e = .returned (.map (some g)) ∧ NumAt w' g N c ∧ w.heap.size ≤ g ∧ Below w.heap.size w w'

set_option maxHeartbeats 1000000 in
set_option maxRecDepth 100000 in
theorem copied_any (w : World) (b N c : Nat) (hN : N < maxLen) (h : NumAt w b N c) :
    Calls Try.prog 43 #[.map (some b)] w (MapPost w N c) := by
  have hlt := h.lt
  obtain ⟨D, hown, hc⟩ := h
  have HC := Aside0.mk hc
  have HLT := Aside0.mk hlt
  have HN := Aside0.mk hN
  have hown1 := Aside0.mk (ownsMap_block hown (Below.heap_alloc w (.map #[] 0) b hlt))
  have hmm := @run_makeMap Try.prog
  clear hc hlt hN hown
  go_enter Try.func43, Try.ntmps43
  go_wp2_with (first
    | (at_range; refine wpList_range_own _ rfl _ 63 rfl 9 3 law9 Try.underlying63 _ b N _ rfl hown1.out ?_; intro w0 hrg0 hg0 hs0; have HRG0 := Aside0.mk hrg0; have HG0 := Aside0.mk hg0; have HS0 := Aside0.mk hs0; clear hrg0 hg0 hs0)
    | go_in)
  generalize hit : (w.alloc (Obj.map #[] 0)).heap.size = it at *
  have hit' : it = w.heap.size + 1 := by rw [← hit]; simp
  have HIT := Aside0.mk hit'
  clear hit hit'
  go_frame
  go_loopw [] (fun wr => CopyRel w b w.heap.size it N c D wr) (fun wr => wr.rangeLeft b it)
  case atStart =>
    refine ⟨_, _, 0, HRG0.out, (NumAt.empty (heap_alloc_new w _) c).keep (HG0.out.block _ (by simp) (by simp)), ?_, ((Below.refl _ _).alloc (Nat.le_refl _) _).grown HG0.out (by simp) (fun j hj => by cases hj)⟩
    have := hown1.out.size_le
    omega
  case round =>
    obtain ⟨left, cnt, k, hrg, hm, hk, hb⟩ := hrel
    have HRG := Aside0.mk hrg
    have HM := Aside0.mk hm
    have HK := Aside0.mk hk
    have HB := Aside0.mk hb
    clear hrg hm hk hb
    go_wp2_with (first
      | (at_next; refine wpList_next_ranges _ rfl _ rfl 9 law9 numElem encStr (fun n : Nat => Value.int .i64 n) inv9 invN b it N _ _ _ rfl HRG.out ?_ ?_)
      | go_in)
    · intro hc0 hl0
      clear hc0 hl0
      go_wp2
      go_ret
      exact ⟨_, rfl, HM.out.mono (by have := HK.out; omega) (Nat.le_refl _), Nat.le_refl _, HB.out⟩
    · intro x o kl yd yp w3 cnt2 hkey hlk hv hat hrg2 hlt hg2 hs2 hen
      obtain ⟨x', ex, rfl, hxl⟩ := Maps.keyOf_str Try.underlying9 hkey
      obtain rfl : x = x' := encStr_inj ex
      have hoc : o < c := by
        have hh : Maps.has D (.string x) = true := has_true_of_atKey hat
        obtain ⟨i, h1, h2⟩ := HC.out x hh
        rw [hat] at h2
        obtain ⟨n, h3, h4⟩ := numElem_inv hv
        injection h3 with _ h3
        cases h4
        injection h2 with h2
        injection h2 with _ h2
        omega
      have hit := HIT.out
      have hm3 : NumAt w3 w.heap.size k c := HM.out.keep (hg2.block _ HM.out.lt (by simp; omega))
      obtain ⟨w5, hrun, hm5, ht5⟩ := hm3.store (by have := HK.out; have := HN.out; omega) ⟨x.toArray⟩ (by simpa [ByteArray.size] using hxl) o hoc
      have hrg5 := hrg2.kept (row := some w.heap.size) ht5.grown (by have := HLT.out; simp; omega) (by simp; omega)
      have HRG5 := Aside0.mk hrg5
      have HM5 := Aside0.mk hm5
      have HLT2 := Aside0.mk hlt
      have HB5 := Aside0.mk ((HB.out.grown hg2 HB.out.size (fun j hj => by cases hj; first | omega | simp)).trans ((Below.refl w.heap.size w3).grown ht5.grown (by have := HM.out.lt; omega) (fun j hj => by cases hj; exact Nat.le_refl _)))
      clear hrg5 hm5 hm3 hlt hrg2 hg2 hs2 hv hat hkey hlk ht5 hit hoc hxl ex
      go_wp2
      go_roundw
      case rel => exact ⟨_, cnt2, k + 1, HRG5.out, HM5.out, by have := HLT2.out; have := HK.out; omega, HB5.out⟩
      case measure =>
        have e1 := HRG5.out.left_eq
        have e2 := HRG.out.left_eq
        rw [e1, e2]
        exact HLT2.out

set_option maxHeartbeats 1000000 in
set_option maxRecDepth 100000 in
theorem without_any (w : World) (b N c : Nat) (s : ByteArray) (hN : N < maxLen) (h : NumAt w b N c) :
    Calls Try.prog 42 #[.map (some b), .string s] w (MapPost w N c) := by
  have hlt := h.lt
  obtain ⟨D, hown, hc⟩ := h
  have HC := Aside0.mk hc
  have HLT := Aside0.mk hlt
  have HN := Aside0.mk hN
  have hown1 := Aside0.mk (ownsMap_block hown (Below.heap_alloc w (.map #[] 0) b hlt))
  have hmm := @run_makeMap Try.prog
  clear hc hlt hN hown
  go_enter Try.func42, Try.ntmps42
  go_wp2_with (first
    | (at_range; refine wpList_range_own _ rfl _ 63 rfl 9 3 law9 Try.underlying63 _ b N _ rfl hown1.out ?_; intro w0 hrg0 hg0 hs0; have HRG0 := Aside0.mk hrg0; have HG0 := Aside0.mk hg0; have HS0 := Aside0.mk hs0; clear hrg0 hg0 hs0)
    | go_in)
  generalize hit : (w.alloc (Obj.map #[] 0)).heap.size = it at *
  have hit' : it = w.heap.size + 1 := by rw [← hit]; simp
  have HIT := Aside0.mk hit'
  clear hit hit'
  go_frame
  go_loopw [] (fun wr => CopyRel w b w.heap.size it N c D wr) (fun wr => wr.rangeLeft b it)
  case atStart =>
    refine ⟨_, _, 0, HRG0.out, (NumAt.empty (heap_alloc_new w _) c).keep (HG0.out.block _ (by simp) (by simp)), ?_, ((Below.refl _ _).alloc (Nat.le_refl _) _).grown HG0.out (by simp) (fun j hj => by cases hj)⟩
    have := hown1.out.size_le
    omega
  case round =>
    obtain ⟨left, cnt, k, hrg, hm, hk, hb⟩ := hrel
    have HRG := Aside0.mk hrg
    have HM := Aside0.mk hm
    have HK := Aside0.mk hk
    have HB := Aside0.mk hb
    clear hrg hm hk hb
    go_wp2_with (first
      | (at_next; refine wpList_next_ranges _ rfl _ rfl 9 law9 numElem encStr (fun n : Nat => Value.int .i64 n) inv9 invN b it N _ _ _ rfl HRG.out ?_ ?_)
      | go_in)
    · intro hc0 hl0
      clear hc0 hl0
      go_wp2
      go_ret
      exact ⟨_, rfl, HM.out.mono (by have := HK.out; omega) (Nat.le_refl _), Nat.le_refl _, HB.out⟩
    · intro x o kl yd yp w3 cnt2 hkey hlk hv hat hrg2 hlt hg2 hs2 hen
      obtain ⟨x', ex, rfl, hxl⟩ := Maps.keyOf_str Try.underlying9 hkey
      obtain rfl : x = x' := encStr_inj ex
      have hoc : o < c := by
        have hh : Maps.has D (.string x) = true := has_true_of_atKey hat
        obtain ⟨i, h1, h2⟩ := HC.out x hh
        rw [hat] at h2
        obtain ⟨n, h3, h4⟩ := numElem_inv hv
        injection h3 with _ h3
        cases h4
        injection h2 with h2
        injection h2 with _ h2
        omega
      have hit := HIT.out
      have hm3 : NumAt w3 w.heap.size k c := HM.out.keep (hg2.block _ HM.out.lt (by simp; omega))
      have hsame := HB.out.grown hg2 HB.out.size (fun j hj => by cases hj; first | omega | simp)
      have HSAME := Aside0.mk hsame
      have HM3 := Aside0.mk hm3
      have HRG3 := Aside0.mk hrg2
      have HLT2 := Aside0.mk hlt
      by_cases hxs : (x == s.toList) = true
      · clear hlt hrg2 hg2 hs2 hv hat hkey hlk hit hoc hxl ex hsame hm3
        go_wp2
        go_roundw
        case rel => exact ⟨_, cnt2, k, HRG3.out, HM3.out, by have := HLT2.out; have := HK.out; omega, HSAME.out⟩
        case measure =>
          have e1 := HRG3.out.left_eq
          have e2 := HRG.out.left_eq
          rw [e1, e2]
          exact HLT2.out
      · replace hxs := Bool.eq_false_iff.2 hxs
        obtain ⟨w5, hrun, hm5, ht5⟩ := hm3.store (by have := HK.out; have := HN.out; omega) ⟨x.toArray⟩ (by simpa [ByteArray.size] using hxl) o hoc
        have hrg5 := hrg2.kept (row := some w.heap.size) ht5.grown (by have := HLT.out; simp; omega) (by simp; omega)
        have HRG5 := Aside0.mk hrg5
        have HM5 := Aside0.mk hm5
        have HB5 := Aside0.mk (hsame.trans ((Below.refl w.heap.size w3).grown ht5.grown (by have := HM.out.lt; omega) (fun j hj => by cases hj; exact Nat.le_refl _)))
        clear hrg5 hm5 hm3 hlt hrg2 hg2 hs2 hv hat hkey hlk ht5 hit hoc hxl ex hsame
        go_wp2
        go_roundw
        case rel => exact ⟨_, cnt2, k + 1, HRG5.out, HM5.out, by have := HLT2.out; have := HK.out; omega, HB5.out⟩
        case measure =>
          have e1 := HRG5.out.left_eq
          have e2 := HRG.out.left_eq
          rw [e1, e2]
          exact HLT2.out

end Go.Proofs.Ytolpgajodhondaa
