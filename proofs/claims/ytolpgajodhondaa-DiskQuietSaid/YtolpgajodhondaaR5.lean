/- The document's disk: all bytes. -/
import Derived.Test.YtolpgajodhondaaR4
namespace Go.Proofs.Ytolpgajodhondaa
open Go.RowKit Go.Maps Go.Sort Go.WideMaps Go.Proofs.YtolpgajodhondaaW.PrintWords

theorem fileCells_length : ∀ xs : List (ByteArray × Int), (fileCells xs).length = xs.length * 2
  | [] => rfl
  | x :: r => by
    have := fileCells_length r
    simp only [fileCells, List.flatMap_cons, List.length_append, List.length_cons, List.length_nil] at this ⊢
    omega

theorem fileCells_at : ∀ (xs : List (ByteArray × Int)) (i : Nat) (x : ByteArray × Int), xs[i]? = some x → (fileCells xs)[i * 2]? = some (.string x.1) ∧ (fileCells xs)[i * 2 + 1]? = some (.int .i64 x.2)
  | [], i, x, h => by simp at h
  | y :: r, 0, x, h => by
    simp at h
    subst h
    simp [fileCells]
  | y :: r, i + 1, x, h => by
    simp only [List.getElem?_cons_succ] at h
    have := fileCells_at r i x h
    simp only [fileCells, List.flatMap_cons] at this ⊢
    rw [show (i + 1) * 2 = i * 2 + 2 by omega]
    simpa using this

/-- The files' row, as the walk reads it. -/
theorem RefIs.row {w : World} {S : Nat → Prop} {q N L : Nat} {R : Ref} (h : RefIs w S q N L R) : ∃ (A : Option Addr) (c : Nat), R.vF = .slice A R.xs.length c ∧ ∀ i x, R.xs[i]? = some x → ∃ g, A = some ⟨g, 0, none⟩ ∧ S g ∧ w.cell? ⟨g, i * 2, none⟩ = some (.string x.1) ∧ w.cell? ⟨g, i * 2 + 1, none⟩ = some (.int .i64 x.2) := by
  obtain ⟨A, c, hv⟩ := own_slice h.files
  refine ⟨A, c, hv, fun i x hx => ?_⟩
  rcases h.files.2 with ⟨_, h0⟩ | ⟨g, cap, cur, e, _, hb, _⟩
  · rw [List.eq_nil_of_length_eq_zero h0] at hx
    simp at hx
  · have hob : R.vF.ownBlock = some g := by rw [e]; rfl
    obtain ⟨h1, h2⟩ := fileCells_at R.xs i x hx
    have k1 := h.files.cells (g := g) hob _ _ h1
    have k2 := h.files.cells (g := g) hob _ _ h2
    rw [hv] at e
    injection e with e
    rw [add_plain] at k1 k2
    exact ⟨g, e, h.sf g hob, k1, k2⟩

def sizeOfFile (xs : List (ByteArray × Int)) (d : DataW Unit) : Nat := match d with
  | .lit (.int .i64 b) => ((xs[b.toNat]?).map fun x => x.1.size).getD 0
  | _ => 0

/-- What the names' map is, and how many bytes its files have. -/
structure RefNames (w : World) (nb N : Nat) (xs : List (ByteArray × Int)) (D : DataW Unit) : Prop where
  own : w.ownsMap Try.prog 9 numElem nb N D
  low : ∀ k, Maps.has D (.string k) = true → ∃ i : Nat, i < xs.length ∧ D.atKey (.string k) .nil = .lit (.int .i64 i)

def usedN (D : DataW Unit) (xs : List (ByteArray × Int)) : Nat := sumLeft (sizeOfFile xs) (fun _ => true) (entries D)

theorem usedN_le {w : World} {nb N L : Nat} {xs : List (ByteArray × Int)} {D : DataW Unit} (h : RefNames w nb N xs D) (hs : ∀ x ∈ xs, x.1.size ≤ L) : usedN D xs ≤ N * L := by
  obtain ⟨es, rfl, hap, hkey⟩ := h.own.entries law9
  refine Nat.le_trans (sumLeft_le (sizeOfFile xs) (fun _ => true) L es fun p _ => ?_) (Nat.mul_le_mul_right L h.own.size_le)
  unfold sizeOfFile
  split
  · rename_i b _
    cases hx : xs[b.toNat]? with
    | none => simp
    | some x => simpa using hs x (List.mem_of_getElem? hx)
  · exact Nat.zero_le _

set_option maxHeartbeats 1000000 in
set_option maxRecDepth 100000 in
theorem ref_used (w : World) (S : Nat → Prop) (q N L : Nat) (R : Ref) (D : DataW Unit) (hNL : N * L ≤ 4611686018427387903) (h : RefIs w S q N L R) (hD : RefNames w R.nb N R.xs D) : Calls Try.prog 41 #[.pointer (some ⟨q, 0, none⟩)] w fun e w' => e = .returned (.int .i64 (usedN D R.xs)) ∧ Below w.heap.size w w' := by
  have H := Aside0.mk h
  have c2 : w.cell? ⟨q, 2, none⟩ = some (.map (some R.nb)) := h.cells.1 2
  have hU := usedN_le hD h.short
  obtain ⟨hown, hc⟩ := hD
  obtain ⟨es, rfl, hap, hkey⟩ := hown.entries law9
  have HP := Aside0.mk hap
  have hst := Aside0.mk (sumLeft_all (sizeOfFile R.xs) es hkey)
  have hus := Aside0.mk (show usedN (.map es) R.xs = sumLeft (sizeOfFile R.xs) (fun _ => true) es from rfl)
  generalize usedN (.map es) R.xs = U at *
  have HOWN := Aside0.mk hown
  have HC := Aside0.mk hc
  clear h hown hc hap hkey
  go_enter Try.func41, Try.ntmps41
  go_wp2_with (first
    | (at_range; refine wpList_range_own _ rfl _ 63 rfl 9 3 law9 Try.underlying63 _ R.nb N _ rfl HOWN.out ?_; intro w0 hrg0 hg0 hs0; have HRG0 := Aside0.mk hrg0; have HG0 := Aside0.mk hg0; clear hrg0 hg0 hs0)
    | go_in)
  go_frame
  go_loopw [3] (fun v wr => ∃ (left : Lit → Bool) (cnt r : Nat), v = .int .i64 r ∧ Aside0 (wr.ranges Try.prog 9 numElem R.nb w.heap.size N (.map es) left cnt) ∧ Aside0 (r + sumLeft (sizeOfFile R.xs) left es = U) ∧ Aside0 (Below w.heap.size w wr)) (fun _ wr => wr.rangeLeft R.nb w.heap.size)
  case atStart => exact ⟨_, _, 0, rfl, ⟨HRG0.out⟩, ⟨by rw [hus.out, ← hst.out]; omega⟩, ⟨(Below.refl _ _).grown HG0.out (Nat.le_refl _) (fun j hj => by cases hj)⟩⟩
  case round =>
    clear HG0 HRG0
    obtain ⟨left, cnt, r, rfl, hrg, hr, hb⟩ := hrel
    go_wp2_with (first
      | (at_next; refine wpList_next_ranges _ rfl _ rfl 9 law9 numElem encStr (fun n : Nat => Value.int .i64 n) inv9 invN R.nb w.heap.size N _ _ _ rfl hrg.out ?_ ?_)
      | go_in)
    · intro hc0 hl0
      have e : r = U := by have := hr.out; rw [sumLeft_none _ hl0] at this; omega
      have HE := Aside0.mk e
      clear hc0 hl0 e
      go_wp2
      go_ret
      exact ⟨by rw [HE.out]; rfl, hb.out⟩
    · intro x o kl yd yp w3 cnt2 hkey hlk hv hat hrg2 hlt hg2 hs2 hen
      obtain ⟨x', ex, rfl, hxl⟩ := Maps.keyOf_str Try.underlying9 hkey
      obtain rfl : x = x' := encStr_inj ex
      have hh : Maps.has (.map es) (.string x) = true := has_true_of_atKey hat
      have hyd : yd = .lit (.int .i64 (o : Nat)) := by
        obtain ⟨n, h3, h4⟩ := numElem_inv hv
        injection h3 with _ h3
        have h4' := congrArg Prod.fst h4
        rw [← h3] at h4'
        exact h4'
      have hoc : o < R.xs.length := by
        obtain ⟨i, h1, h2⟩ := HC.out x hh
        rw [hat, hyd] at h2
        injection h2 with h2
        injection h2 with _ h2
        omega
      obtain ⟨y, hy⟩ : ∃ y, R.xs[o]? = some y := ⟨_, List.getElem?_eq_getElem hoc⟩
      have hstep := sumLeft_step (sizeOfFile R.xs) (isKey x) hlk es HP.out hh hat
      have hsz : sizeOfFile R.xs yd = y.1.size := by
        rw [hyd]
        simp [sizeOfFile, hy]
      rw [hsz] at hstep
      have hb3 : Below w.heap.size w w3 := hb.out.grown hg2 hb.out.size (fun j hj => by cases hj; exact Nat.le_refl _)
      have h3 := H.out.beside hb3
      obtain ⟨A, cc, hvF, hrow⟩ := h3.row
      obtain ⟨g, rfl, _, k1, k2⟩ := hrow o y hy
      have c1 : w3.cell? ⟨q, 1, none⟩ = some R.vF := h3.cells.1 1
      rw [hvF] at c1
      have hoc' : decide (o < R.xs.length) = true := decide_eq_true hoc
      have hsum : r + y.1.size ≤ 4611686018427387903 := by
        have := hr.out
        omega
      have HB3 := Aside0.mk hb3
      have HRG3 := Aside0.mk hrg2
      have HLT := Aside0.mk hlt
      have HS := Aside0.mk hstep
      clear hb3 h3 hvF hrow hrg2 hlt hg2 hs2 hv hat hkey hlk hxl ex hy k2 hstep hyd hsz hh
      go_wp2
      go_roundw
      case rel => exact ⟨_, cnt2, r + y.1.size, by go_num, HRG3, ⟨by have := HS.out; have := hr.out; omega⟩, HB3⟩
      case measure => rw [HRG3.out.left_eq, hrg.out.left_eq]; exact HLT.out

end Go.Proofs.Ytolpgajodhondaa
