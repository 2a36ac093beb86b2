/- The document's disk: what it reads as; its step; a new one. -/
import Derived.Test.YtolpgajodhondaaR2
namespace Go.Proofs.Ytolpgajodhondaa
open Go.RowKit Go.Maps Go.Sort Go.WideMaps Go.Proofs.YtolpgajodhondaaW.PrintWords

def fileCells (xs : List (ByteArray × Int)) : List Value := xs.flatMap fun x => [.string x.1, .int .i64 x.2]

structure Ref where
  room : Int
  vF : Value
  fuse : Int
  down : Bool
  steps : Int
  nb : Nat
  vS : Value
  xs : List (ByteArray × Int)

def refCells (R : Ref) : Array Value := #[.int .i64 R.room, R.vF, .map (some R.nb), R.vS, .int .i64 R.fuse, .bool R.down, .int .i64 R.steps]

/-- THE DOCUMENT's DISK: its own blocks are S; at most N names and files, each file at most L bytes. -/
structure RefIs (w : World) (S : Nat → Prop) (q N L : Nat) (R : Ref) : Prop where
  sq : S q
  sn : S R.nb
  sf : ∀ k, R.vF.ownBlock = some k → S k
  blk : w.heap[q]? = some (.cells (refCells R) 66 (0, 0))
  names : NumAt w R.nb N R.xs.length
  files : w.ownsRow 0 80 2 R.vF R.xs.length (fileCells R.xs)
  len : R.xs.length ≤ N
  short : ∀ x ∈ R.xs, x.1.size ≤ L
  vS : ∃ b, R.vS = .map b

def RefIn (w : World) (S : Nat → Prop) (q N L : Nat) : Prop := ∃ R, RefIs w S q N L R

section
variable {w w' : World} {S S' : Nat → Prop} {q N L : Nat} {R : Ref}
theorem own_keep {v : Value} {base n sz : Nat} {e : TypeId} {xs : List Value} (h : w.ownsRow base e sz v n xs) (hk : ∀ k, v.ownBlock = some k → k < w.heap.size → w'.heap[k]? = w.heap[k]?) : w'.ownsRow base e sz v n xs :=
  ⟨h.1, h.2.imp id fun ⟨g, cap, cur, e1, h0, hg, r⟩ => ⟨g, cap, cur, e1, h0, (hk g (by rw [e1]; rfl) (blk_lt' hg)).trans hg, r⟩⟩

theorem own_lt {v : Value} {base n sz : Nat} {e : TypeId} {xs : List Value} (h : w.ownsRow base e sz v n xs) {k : Nat} (hk : v.ownBlock = some k) : k < w.heap.size := by
  rcases h.2 with ⟨rfl, _⟩ | ⟨g, cap, cur, rfl, _, hg, _⟩
  · cases hk
  · cases hk
    exact blk_lt' hg

theorem own_cells {v : Value} {base n sz : Nat} {e : TypeId} {xs : List Value} (h : w.ownsRow base e sz v n xs) {k : Nat} (hk : v.ownBlock = some k) : ∃ cur, w.heap[k]? = some (.cells cur e (0, 0)) := by
  rcases h.2 with ⟨rfl, _⟩ | ⟨g, cap, cur, rfl, _, hg, _⟩
  · cases hk
  · cases hk
    exact ⟨_, hg⟩

theorem RefIs.keep (h : RefIs w S q N L R) (hk : ∀ k, S k → k < w.heap.size → w'.heap[k]? = w.heap[k]?) (hS : ∀ k, S k → S' k) : RefIs w' S' q N L R :=
  ⟨hS _ h.sq, hS _ h.sn, fun k e => hS _ (h.sf k e), (hk _ h.sq (blk_lt h.blk)).trans h.blk, h.names.keep (hk _ h.sn h.names.lt), own_keep h.files (fun k e hl => hk k (h.sf k e) hl), h.len, h.short, h.vS⟩

theorem RefIs.beside (h : RefIs w S q N L R) (hb : Below w.heap.size w w') : RefIs w' S q N L R := h.keep (fun k _ hl => hb.block k hl) (fun _ h => h)

theorem RefIs.tight (h : RefIs w S q N L R) : RefIs w (fun k => S k ∧ k < w.heap.size) q N L R :=
  ⟨⟨h.sq, blk_lt h.blk⟩, ⟨h.sn, h.names.lt⟩, fun k e => ⟨h.sf k e, own_lt h.files e⟩, h.blk, h.names, h.files, h.len, h.short, h.vS⟩

theorem RefIs.mono (h : RefIs w S q N L R) {N' L' : Nat} (hN : N ≤ N') (hL : L ≤ L') : RefIs w S q N' L' R :=
  ⟨h.sq, h.sn, h.sf, h.blk, h.names.mono hN (Nat.le_refl _), h.files, Nat.le_trans h.len hN, fun x hx => Nat.le_trans (h.short x hx) hL, h.vS⟩

theorem RefIs.q_ne_n (h : RefIs w S q N L R) : q ≠ R.nb := fun e => by
  obtain ⟨D, ⟨es, c, hb, _⟩, _⟩ := h.names
  have := h.blk
  rw [e, hb] at this
  cases this

theorem RefIs.q_ne_f (h : RefIs w S q N L R) {k : Nat} (hk : R.vF.ownBlock = some k) : k ≠ q := fun e => by
  obtain ⟨cur, hc⟩ := own_cells h.files hk
  have := h.blk
  rw [← e, hc] at this
  injection this with this
  injection this with _ this
  cases this

theorem RefIs.n_ne_f (h : RefIs w S q N L R) {k : Nat} (hk : R.vF.ownBlock = some k) : k ≠ R.nb := fun e => by
  obtain ⟨cur, hc⟩ := own_cells h.files hk
  obtain ⟨D, ⟨es, c, hb, _⟩, _⟩ := h.names
  rw [e, hb] at hc
  cases hc

theorem RefIs.cells (h : RefIs w S q N L R) : (∀ i, w.cell? ⟨q, i, none⟩ = (refCells R)[i]?) ∧ ∀ i, w.frozen? ⟨q, i, none⟩ = false :=
  ⟨fun i => blk_cell h.blk i, fun i => blk_frozen h.blk i⟩

/-- The disk's own block turned, but not its files' and names' cells. -/
theorem RefIs.own (h : RefIs w S q N L R) {R' : Ref} (hd : w'.heap[q]? = some (.cells (refCells R') 66 (0, 0))) (hk : ∀ k, k ≠ q → k < w.heap.size → w'.heap[k]? = w.heap[k]?) (h1 : R'.nb = R.nb) (h2 : R'.vF = R.vF) (h3 : R'.xs = R.xs) (h4 : ∃ b, R'.vS = .map b) : RefIs w' S q N L R' := by
  refine ⟨h.sq, h1 ▸ h.sn, h2 ▸ h.sf, hd, ?_, ?_, h3 ▸ h.len, h3 ▸ h.short, h4⟩
  · rw [h1, h3]
    exact h.names.keep (hk _ (Ne.symm h.q_ne_n) h.names.lt)
  · rw [h2, h3]
    exact own_keep h.files (fun k e hl => hk k (h.q_ne_f e) hl)
end

def StepPost (w : World) (S : Nat → Prop) (q N L : Nat) (e : Ending) (w' : World) : Prop :=
  ∃ b : Bool, e = .returned (.bool b) ∧ RefIn w' S q N L ∧ Keeps S w w' ∧ w'.heap.size = w.heap.size

set_option maxHeartbeats 1000000 in
theorem ref_step (w : World) (S : Nat → Prop) (q N L : Nat) (h : RefIn w S q N L) : Calls Try.prog 39 #[.pointer (some ⟨q, 0, none⟩)] w (StepPost w S q N L) := by
  obtain ⟨R, h⟩ := h
  have H := Aside0.mk h
  have c4 : w.cell? ⟨q, 4, none⟩ = some (.int .i64 R.fuse) := h.cells.1 4
  have c5 : w.cell? ⟨q, 5, none⟩ = some (.bool R.down) := h.cells.1 5
  have c6 : w.cell? ⟨q, 6, none⟩ = some (.int .i64 R.steps) := h.cells.1 6
  have f4 := h.cells.2 4
  have f5 := h.cells.2 5
  have f6 := h.cells.2 6
  obtain ⟨bS, hvS⟩ := h.vS
  have HV := Aside0.mk hvS
  clear h hvS
  have hone : ∀ (R' : Ref) (w' : World), w'.heap[q]? = some (.cells (refCells R') 66 (0, 0)) → (∀ k, k ≠ q → k < w.heap.size → w'.heap[k]? = w.heap[k]?) → R'.nb = R.nb → R'.vF = R.vF → R'.xs = R.xs → R'.vS = R.vS → RefIn w' S q N L :=
    fun R' w' h1 h2 h3 h4 h5 h6 => ⟨R', H.out.own h1 h2 h3 h4 h5 ⟨bS, h6 ▸ HV.out⟩⟩
  have HONE := Aside0.mk hone
  clear hone
  cases hd : R.down with
  | true =>
    rw [hd] at c5
    clear hd
    go_enter Try.func39, Try.ntmps39
    go_wp2
    go_ret
    exact ⟨false, rfl, HONE.out { R with down := true } _ (blk_put H.out.blk 5 _ rfl) (fun k hk _ => Below.heap_setCell _ _ _ _ hk) rfl rfl rfl rfl, (Keeps.refl _ _).setCell (.inl H.out.sq) _, by simp⟩
  | false =>
    rw [hd] at c5
    clear hd
    by_cases hz : R.fuse = 0
    · have b1 : (R.fuse == 0) = true := beq_iff_eq.2 hz
      clear hz
      go_enter Try.func39, Try.ntmps39
      go_wp2
      go_ret
      exact ⟨false, rfl, HONE.out { R with down := true } _ (blk_put H.out.blk 5 _ rfl) (fun k hk _ => Below.heap_setCell _ _ _ _ hk) rfl rfl rfl rfl, (Keeps.refl _ _).setCell (.inl H.out.sq) _, by simp⟩
    · have b1 : (R.fuse == 0) = false := beq_eq_false_iff_ne.2 hz
      clear hz
      by_cases hp : 0 < R.fuse
      · go_enter Try.func39, Try.ntmps39
        go_wp2
        go_ret
        exact ⟨true, rfl, HONE.out { R with fuse := wrap64 (R.fuse - 1), steps := wrap64 (R.steps + 1) } _ (blk_put (blk_put H.out.blk 4 _ rfl) 6 _ rfl) (fun k hk _ => by rw [Below.heap_setCell _ _ _ _ hk, Below.heap_setCell _ _ _ _ hk]) rfl rfl rfl rfl, ((Keeps.refl _ _).setCell (.inl H.out.sq) _).setCell (.inl H.out.sq) _, by simp⟩
      · go_enter Try.func39, Try.ntmps39
        go_wp2
        go_ret
        exact ⟨true, rfl, HONE.out { R with steps := wrap64 (R.steps + 1) } _ (blk_put H.out.blk 6 _ rfl) (fun k hk _ => Below.heap_setCell _ _ _ _ hk) rfl rfl rfl rfl, (Keeps.refl _ _).setCell (.inl H.out.sq) _, by simp⟩

end Go.Proofs.Ytolpgajodhondaa
