/- A loss of power. -/
import Derived.Test.YtolpgajodhondaaD11
import Derived.Sort.OwnSorted
import Derived.Deep.RegionHeld3
import Derived.LaidEqlPtr
namespace Go.Proofs.Ytolpgajodhondaa
open Go.RowKit Go.Maps Go.Sort Go.WideMaps Go.Proofs.YtolpgajodhondaaW.PrintWords

def SortPost (w : World) (base : Nat) (v : Value) (ks : List (List UInt8)) (e : Ending) (w' : World) : Prop :=
  e = .returned (.tuple #[]) ∧ ∃ ts : List (List UInt8), ts.Perm ks ∧ w'.ownsRow base 9 1 v ts.length (ts.map encStr) ∧ w.grownBy w' v.ownBlock

theorem sort_any (w : World) (base : Nat) (v : Value) (ks : List (List UInt8)) (h : w.ownsRow base 9 1 v ks.length (ks.map encStr)) (hl : ks.length < 4611686018427387904) :
    Calls Try.prog 35 #[v] w (SortPost w base v ks) := by
  rcases h.2 with ⟨rfl, h0⟩ | ⟨g, cap, cur, rfl, hbase, hb, h1, h2, h3, h4⟩
  · exact (AnyM.slices_Sort_string_none Try.sort35 none 0 w).mono fun e w' ⟨he, hw⟩ => ⟨he, ks, .refl _, hw ▸ h, hw ▸ World.grownBy.refl _ _⟩
  · refine (AnyM.slices_Sort_string Try.sort35 g 0 cap ks w (holds_of_block hb (by simpa using h4)) (Array.getElem?_eq_some_iff.1 hb).1 hl).mono ?_
    rintro e w' ⟨he, n, os, rfl⟩
    have hlen : (ks.mergeSort (fun x y => decide (x ≤ y))).length = ks.length := List.length_mergeSort ks
    refine ⟨he, _, List.mergeSort_perm ks (fun x y => decide (x ≤ y)), ?_, grownBy_sorted _⟩
    rw [hlen]
    exact ownsRow_sorted hlen hbase hb h1 h2 h3

theorem info9 : (Try.prog.info? 9).map (fun i => (i.zero, i.size, i.bytes)) = some (some (.string ⟨#[]⟩), 1, 16) := by kernel_rfl

theorem eqGuard_ptr (x y : Operand) (a b : Option Nat) : eqGuard .neq 57 x y (ptr a) (ptr b) = pure () := rfl

theorem info60 : (Try.prog.info? 60).map (·.size) = some 2 := by kernel_rfl

theorem neq_ptr (w : World) (a b : Option Nat) (ha : ∀ f, a = some f → ∃ cs t, w.heap[f]? = some (.cells cs t (0, 0))) (hb : ∀ f, b = some f → ∃ cs t, w.heap[f]? = some (.cells cs t (0, 0))) :
    (binOp .neq 57 (ptr a) (ptr b)).run Try.prog w = .ok (.bool (decide (a ≠ b))) w := by
  obtain ⟨j, hj, hsz'⟩ := Option.map_eq_some_iff.1 info60
  have hsz : j.size ≠ 0 := by omega
  cases a with
  | none =>
    cases b with
    | none => rw [ptr_none, run_neq_pointer_nil w 57 none (by kernel_rfl)]; simp
    | some g =>
      rw [ptr_none, ptr_some]
      have h : ∀ d : Nat, (Op.equalIn (d + 1) 57 (.pointer none) (.pointer (some ⟨g, 0, none⟩))).run Try.prog w = .ok false w := fun d => by
        simp [Op.equalIn, run_underlying Try.underlying57]
      simp only [binOp]
      simp [Op.equal, Op.maxDepth, h 9999]
  | some f =>
    cases b with
    | none => rw [ptr_none, ptr_some, run_neq_pointer_nil w 57 _ (by kernel_rfl)]; simp
    | some g =>
      rw [ptr_some, ptr_some]
      have h : ∀ d : Nat, (Op.equalIn (d + 1) 57 (.pointer (some ⟨f, 0, none⟩)) (.pointer (some ⟨g, 0, none⟩))).run Try.prog w = .ok (decide (f = g)) w := fun d => by
        by_cases e : f = g
        · subst e
          simp [Op.equalIn, run_underlying Try.underlying57, sizeOf, typeInfo, hj, run_sameAddr_same]
        · obtain ⟨c1, t1, h1⟩ := ha f rfl
          obtain ⟨c2, t2, h2⟩ := hb g rfl
          have hne : (⟨f, 0, none⟩ : Addr) ≠ ⟨g, 0, none⟩ := fun h => e (by injection h)
          simp [Op.equalIn, run_underlying Try.underlying57, sizeOf, typeInfo, hj, hsz, run_sameAddr_other w hne h1 h2, e]
      simp only [binOp]
      simp [Op.equal, Op.maxDepth, h 9999]

end Go.Proofs.Ytolpgajodhondaa
