/- The document's disk: bytes made sure. -/
import Derived.Test.YtolpgajodhondaaR7
import Derived.StillTailTactics
namespace Go.Proofs.Ytolpgajodhondaa
open Go.RowKit Go.Maps Go.Sort Go.WideMaps Go.Proofs.YtolpgajodhondaaW.PrintWords

theorem own_put {w : World} {base n sz g : Nat} {e : TypeId} {v : Value} {cs : List Value} (h : w.ownsRow base e sz v n cs) (hv : v.ownBlock = some g) (j : Nat) (u : Value) : (w.setCell ⟨g, j, none⟩ u).ownsRow base e sz v n (cs.set j u) := by
  refine ⟨by rw [List.length_set]; exact h.1, ?_⟩
  rcases h.2 with ⟨rfl, _⟩ | ⟨g', cap, cur, rfl, hb, hg, h1, h2, h3, h4⟩
  · cases hv
  · cases hv
    refine .inr ⟨_, cap, cur.setIfInBounds j u, rfl, hb, blk_set hg j u, h1, h2, by simpa using h3, ?_⟩
    rw [Array.toList_setIfInBounds, List.take_set, h4]

theorem fileCells_set0 : ∀ (xs : List (ByteArray × Int)) (i : Nat) (x : ByteArray × Int) (a : ByteArray), xs[i]? = some x → (fileCells xs).set (i * 2) (.string a) = fileCells (xs.set i (a, x.2))
  | [], i, x, a, h => by simp at h
  | y :: r, 0, x, a, h => by
    simp at h
    subst h
    simp [fileCells]
  | y :: r, i + 1, x, a, h => by
    simp only [List.getElem?_cons_succ] at h
    have := fileCells_set0 r i x a h
    simp only [fileCells, List.flatMap_cons, List.set_cons_succ] at this ⊢
    rw [show (i + 1) * 2 = i * 2 + 1 + 1 by omega]
    simp [this]

theorem fileCells_set1 : ∀ (xs : List (ByteArray × Int)) (i : Nat) (x : ByteArray × Int) (b : Int), xs[i]? = some x → (fileCells xs).set (i * 2 + 1) (.int .i64 b) = fileCells (xs.set i (x.1, b))
  | [], i, x, b, h => by simp at h
  | y :: r, 0, x, b, h => by
    simp at h
    subst h
    simp [fileCells]
  | y :: r, i + 1, x, b, h => by
    simp only [List.getElem?_cons_succ] at h
    have := fileCells_set1 r i x b h
    simp only [fileCells, List.flatMap_cons, List.set_cons_succ] at this ⊢
    rw [show (i + 1) * 2 + 1 = (i * 2 + 1) + 1 + 1 by omega]
    simp [this]

/-- A file's cell turned. -/
theorem RefIs.filed {w : World} {S : Nat → Prop} {q N L L' g j : Nat} {R : Ref} {u : Value} {xs' : List (ByteArray × Int)} (h : RefIs w S q N L R) (hv : R.vF.ownBlock = some g) (hl : xs'.length = R.xs.length) (hset : (fileCells R.xs).set j u = fileCells xs') (hs : ∀ x ∈ xs', x.1.size ≤ L') :
    RefIs (w.setCell ⟨g, j, none⟩ u) S q N L' { R with xs := xs' } := by
  have hk : ∀ k, k ≠ g → (w.setCell ⟨g, j, none⟩ u).heap[k]? = w.heap[k]? := fun k hk => Below.heap_setCell _ _ _ _ hk
  refine ⟨h.sq, h.sn, h.sf, (hk q (Ne.symm (h.q_ne_f hv))).trans h.blk, ?_, ?_, by show xs'.length ≤ N; rw [hl]; exact h.len, hs, h.vS⟩
  · show NumAt _ R.nb N xs'.length
    rw [hl]
    exact h.names.keep (hk _ (Ne.symm (h.n_ne_f hv)))
  · show World.ownsRow _ 0 80 2 R.vF xs'.length (fileCells xs')
    rw [hl, ← hset]
    exact own_put h.files hv j u

set_option maxHeartbeats 1000000 in
set_option maxRecDepth 100000 in
theorem ref_sync (w : World) (S : Nat → Prop) (q N L : Nat) (s : ByteArray) (hs : s.size ≤ maxLen) (h : RefIn w S q N L) : Calls Try.prog 29 #[.pointer (some ⟨q, 0, none⟩), .string s] w (NumPost w S q N L) := by
  have hst := ref_step w S q N L h
  clear h
  go_enter Try.func29, Try.ntmps29
  go_wp2_with fail
  refine hst.mono ?_
  rintro e w1 ⟨b, rfl, ⟨R, hin⟩, hk, hsz⟩
  have HI := Aside0.mk hin
  have HK := Aside0.mk hk
  have HZ := Aside0.mk hsz
  have c2 : w1.cell? ⟨q, 2, none⟩ = some (.map (some R.nb)) := hin.cells.1 2
  obtain ⟨i, ok, hl, hok⟩ := hin.names.lookOk s hs
  have HOK := Aside0.mk hok
  clear hk hsz hst hin hok
  cases b with
  | false =>
    clear hl
    go_wp2
    go_ret
    exact ⟨_, rfl, ⟨R, HI.out.more⟩, HK.out⟩
  | true =>
    cases ok with
    | false =>
      go_wp2
      go_ret
      exact ⟨_, rfl, ⟨R, HI.out.more⟩, HK.out⟩
    | true =>
      have hi : i < R.xs.length := HOK.out rfl
      obtain ⟨A, cc, hvF, hrow⟩ := HI.out.row
      obtain ⟨y, hy⟩ : ∃ y, R.xs[i]? = some y := ⟨_, List.getElem?_eq_getElem hi⟩
      obtain ⟨g, rfl, hSg, k1, k2⟩ := hrow i y hy
      have c1 : w1.cell? ⟨q, 1, none⟩ = some R.vF := HI.out.cells.1 1
      have hob : R.vF.ownBlock = some g := by rw [hvF]; rfl
      have hfz : w1.frozen? ⟨g, i * 2 + 1, none⟩ = false := by
        obtain ⟨cur, hc⟩ := own_cells HI.out.files hob
        exact blk_frozen hc _
      rw [hvF] at c1
      have hi' : decide (i < R.xs.length) = true := decide_eq_true hi
      have hI0 : (0 : Int) ≤ (i : Int) := Int.natCast_nonneg _
      have hI1 : (i : Int) < (R.xs.length : Int) := by omega
      have hr : RefIs (w1.setCell ⟨g, i * 2 + 1, none⟩ (.int .i64 (y.1.size : Int))) S q N L { R with xs := R.xs.set i (y.1, (y.1.size : Int)) } := HI.out.filed hob (by simp) (fileCells_set1 _ _ _ _ hy) (fun x hx => by
        rcases List.mem_or_eq_of_mem_set hx with hx | rfl
        · exact HI.out.short x hx
        · exact HI.out.short y (List.mem_of_getElem? hy))
      have s1 : (w1.setCell ⟨g, i * 2 + 1, none⟩ (.int .i64 (y.1.size : Int))).cell? ⟨q, 1, none⟩ = some (.slice (some ⟨g, 0, none⟩) R.xs.length cc) := by
        rw [← hvF]
        exact hr.cells.1 1
      have t1 : (w1.setCell ⟨g, i * 2 + 1, none⟩ (.int .i64 (y.1.size : Int))).cell? ⟨g, i * 2, none⟩ = some (.string y.1) := by
        obtain ⟨A', c', hv', hrow'⟩ := hr.row
        obtain ⟨g', hg', _, k1', _⟩ := hrow' i (y.1, (y.1.size : Int)) (by simp [hi])
        have : g' = g := by
          rw [show ({ R with xs := R.xs.set i (y.1, (y.1.size : Int)) } : Ref).vF = R.vF from rfl, hvF] at hv'
          injection hv' with hv'
          rw [← hv'] at hg'
          injection hg' with hg'
          injection hg' with hg'
          exact hg'.symm
        rw [← this] at k1' ⊢
        exact k1'
      have HR := Aside0.mk hr
      have HY := Aside0.mk hy
      have HOB := Aside0.mk hob
      have HSG := Aside0.mk hSg
      clear hrow hy hob hSg hvF hr
      go_upto_region 6 with fail
      go_region_held3 (fun W => W.cell? ⟨q, 1, none⟩ = some (.slice (some ⟨g, 0, none⟩) R.xs.length cc) ∧ W.cell? ⟨g, i * 2, none⟩ = some (.string y.1)) (first | exact ⟨c1, k1⟩ | exact ⟨s1, t1⟩) (fail)
      go_wp2
      go_ret
      exact ⟨_, rfl, ⟨_, HR.out.more.keep (fun _ _ _ => rfl) (fun _ h => h)⟩, (HK.out.setCell (.inl HSG.out) _).drewN 1⟩

end Go.Proofs.Ytolpgajodhondaa
