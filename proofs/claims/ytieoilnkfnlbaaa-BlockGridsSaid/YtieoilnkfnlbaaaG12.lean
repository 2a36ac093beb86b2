/- What the making of blocks keeps, at the example. -/
import Derived.Test.YtieoilnkfnlbaaaG11
import Derived.Test.YtieoilnkfnlbaaaG7
namespace Go.Proofs.Ytieoilnkfnlbaaa
open Go.RowKit Go.Maps Go.Sort Go.WideMaps Go.Proofs.YtieoilnkfnlbaaaW.PrintWords Go.Proofs.Ytieoilnkfnlbaaa.PBlockGrids

section
variable {P : Program} {l : List Oper} {Q : Exit → Act → World → Prop} {md : Region.Mode} {S : World → Prop}
theorem take_l {i : Nat} {oi : Oper} {v : Value} {fuel : Nat} {listed : Array Bool} {a : Act} {w : World} (hi : l[i]? = some oi)
    (hs : Region.noSelect l.toArray = true) (hf : Region.free md l.toArray listed i = true) (hr : (Region.ready md l.toArray listed).contains i = true)
    (hQ : ∀ c a w, Q (.panic c) (a.put oi.dst v) w → Q (.panic c) a w) (hy : YieldsIf P l.toArray S oi v a) (hS : S w)
    (h : wpAnyH P md l.toArray Q S fuel (listed.setIfInBounds i true) (a.put oi.dst v) w) : wpAnyH P md l.toArray Q S (fuel + 1) listed a w :=
  wpAnyH_take (by simpa using hi) hs hf hr hQ hy hS h
theorem cons_l {fuel : Nat} {listed : Array Bool} {a : Act} {w : World} {i : Nat} {o : Oper} {rs : List Nat} (ho : l[i]? = some o)
    (h : ∀ K' : Act → World → Prop, Shut (∀ a w, S w → (S w → wpAnyH P md l.toArray Q S fuel (listed.setIfInBounds i true) a w) → K' a w) → if Region.wanted o (yielded l.toArray a.tmps) = true then Oper.wp P o a w K' Q else K' (a.put o.dst undef) w)
    (hs : AllReadyH P md l.toArray Q S fuel listed a w rs) : AllReadyH P md l.toArray Q S fuel listed a w (i :: rs) :=
  AllReadyH.cons (by simpa using ho) h hs
end

def Tof : Nat → Int | 0 => 0 | 1 => 63 | _ => 64
def lowOf : Nat → Int | 0 => 0 | 1 => 0 | _ => 64
def tsAt : Nat → Int → List Int
  | 0 => fun _ => []
  | i + 1 => fun x => if x = lowOf i then tsAt i x ++ [Tof i] else tsAt i x

theorem low_i (i : Nat) (hi : i < 3) (w : World) : Calls Try.prog 5 #[.int .i64 0, .int .i64 (Tof i)] w fun e w' => e = .returned (.int .i64 (lowOf i)) ∧ Below w.heap.size w w' := by
  have : i = 0 ∨ i = 1 ∨ i = 2 := by omega
  rcases this with rfl | rfl | rfl
  · exact block_Low.calls 0 0 0 w (by kernel_rfl)
  · exact block_Low.calls 0 63 0 w (by kernel_rfl)
  · exact block_Low.calls 0 64 64 w (by kernel_rfl)

theorem width_0 (w : World) : Calls Try.prog 7 #[.int .i64 0] w fun e w' => e = .returned (.int .i64 64) ∧ Below w.heap.size w w' := block_Width.calls 0 64 w (by kernel_rfl)

theorem low_wf (i : Nat) : (Lit.int .i64 (lowOf i)).wf = true := by
  unfold lowOf
  split <;> decide

/-- Block b: its one row, and the row's samples, in blocks of S. -/
def BlkIn (w : World) (S : Nat → Prop) (base b : Nat) (low : Int) (ts : List Int) : Prop :=
  ∃ (r c : Nat) (sv : Value) (cur : Array Value), S b ∧ S r ∧ w.heap[b]? = some (.cells #[.int .i64 low, .int .i64 (low + 64), .int .i64 0, .slice (some ⟨r, 0, none⟩) 1 c] 42 (0, 0)) ∧
    w.heap[r]? = some (.cells cur 36 (0, 0)) ∧ cur[0]? = some (.string keyB) ∧ cur[1]? = some sv ∧ w.ownsRow base 56 9 sv ts.length (ts.flatMap sampleCells) ∧ ∀ k, sv.ownBlock = some k → S k

theorem BlkIn.keep {w w' : World} {S S' : Nat → Prop} {base b : Nat} {low : Int} {ts : List Int} (h : BlkIn w S base b low ts) (hk : ∀ k, S k → k < w.heap.size → w'.heap[k]? = w.heap[k]?) (hS : ∀ k, S k → S' k) : BlkIn w' S' base b low ts := by
  obtain ⟨r, c, sv, cur, h1, h2, h3, h4, h5, h6, h7, h8⟩ := h
  exact ⟨r, c, sv, cur, hS _ h1, hS _ h2, (hk _ h1 (blk_lt h3)).trans h3, (hk _ h2 (blk_lt h4)).trans h4, h5, h6, own_move h7 (fun k hk' => hk k (h8 k hk') (own_lt h7 k hk')), fun k hk' => hS k (h8 k hk')⟩

/-- The blocks that were made, by their times. -/
structure Made (W0 wr : World) (M n : Nat) (ts : Int → List Int) (m : Int → Option Nat) (S : Int → Nat → Prop) : Prop where
  map : MapAt wr M n m
  nones : ∀ k, m k = none ↔ ts k = []
  blk : ∀ k b, m k = some b → BlkIn wr (S k) W0.heap.size b k (ts k)
  apart : ∀ k j x, S k x → S j x → k = j
  low : ∀ k x, S k x → W0.heap.size ≤ x ∧ x < wr.heap.size
  keeps : Keeps (fun x => x = M) W0 wr
  old : M < W0.heap.size

theorem Made.beside {W0 wr w' : World} {M n : Nat} {ts : Int → List Int} {m : Int → Option Nat} {S : Int → Nat → Prop} (h : Made W0 wr M n ts m S) (hb : Below wr.heap.size wr w') : Made W0 w' M n ts m S :=
  ⟨h.map.keep (hb.block _ h.map.lt), h.nones, fun k b hk => (h.blk k b hk).keep (fun x _ hl => hb.block x hl) (fun _ h => h), h.apart, fun k x hx => ⟨(h.low k x hx).1, Nat.lt_of_lt_of_le (h.low k x hx).2 hb.size⟩, h.keeps.trans (Keeps.of_below hb), h.old⟩

/-- A new block's place in the map. -/
theorem Made.stored {W0 wr w' : World} {M n : Nat} {ts : Int → List Int} {m : Int → Option Nat} {S : Int → Nat → Prop} (h : Made W0 wr M n ts m S) {low : Int} {b : Nat} {T : List Int} (hnone : m low = none) (hm : MapAt w' M (n + 1) (upd m low (some b)))
    (hk : Keeps (fun x => x = M) wr w') (hb : BlkIn w' (fun x => wr.heap.size ≤ x ∧ x < w'.heap.size) W0.heap.size b low T) (hT : T ≠ []) :
    ∃ S', Made W0 w' M (n + 1) (fun x => if x = low then T else ts x) (upd m low (some b)) S' := by
  have hsz := h.keeps.size
  have hsz' := hk.size
  have hSlow : ∀ k x, k ≠ low → m k ≠ none → S k x → x < wr.heap.size := fun k x _ _ hx => (h.low k x hx).2
  refine ⟨fun k x => if k = low then wr.heap.size ≤ x ∧ x < w'.heap.size else S k x, hm, fun k => ?_, fun k b' hk' => ?_, fun k j x h1 h2 => ?_, fun k x hx => ?_, h.keeps.trans hk, h.old⟩
  · unfold upd
    by_cases e : k = low
    · rw [if_pos e, if_pos e]
      exact ⟨(fun h' => by cases h'), fun h' => absurd h' hT⟩
    · rw [if_neg e, if_neg e]
      exact h.nones k
  · by_cases e : k = low
    · subst e
      have hbb : b' = b := by
        unfold upd at hk'
        rw [if_pos rfl] at hk'
        cases hk'; rfl
      subst hbb
      simp only [if_true]
      exact hb
    · have hk2 : m k = some b' := by
        unfold upd at hk'
        rwa [if_neg e] at hk'
      simp only [e, if_false]
      refine (h.blk k b' hk2).keep (fun x hx hl => hk.block x hl (fun hM => ?_)) (fun _ h => h)
      have := (h.low k x hx).1
      have := h.old
      omega
  · (try simp only at h1 h2)
    by_cases e1 : k = low <;> by_cases e2 : j = low
    · rw [e1, e2]
    · rw [if_pos e1] at h1
      rw [if_neg e2] at h2
      have := (h.low j x h2).2
      omega
    · rw [if_neg e1] at h1
      rw [if_pos e2] at h2
      have := (h.low k x h1).2
      omega
    · rw [if_neg e1] at h1
      rw [if_neg e2] at h2
      exact h.apart k j x h1 h2
  · (try simp only at hx)
    by_cases e : k = low
    · rw [if_pos e] at hx
      omega
    · rw [if_neg e] at hx
      have := h.low k x hx
      omega

/-- A block that is there, with one sample more. -/
theorem Made.grew {W0 wr w' : World} {M n : Nat} {ts : Int → List Int} {m : Int → Option Nat} {S : Int → Nat → Prop} (h : Made W0 wr M n ts m S) {low : Int} {b : Nat} {T : List Int} (hs : m low = some b)
    (hk : Keeps (S low) wr w') (hb : BlkIn w' (fun x => S low x ∨ wr.heap.size ≤ x ∧ x < w'.heap.size) W0.heap.size b low T) (hT : T ≠ []) :
    ∃ S', Made W0 w' M n (fun x => if x = low then T else ts x) m S' := by
  have hsz := h.keeps.size
  have hsz' := hk.size
  refine ⟨fun k x => if k = low then S low x ∨ wr.heap.size ≤ x ∧ x < w'.heap.size else S k x, h.map.keep (hk.block _ h.map.lt (fun hS => by have := (h.low low _ hS).1; have := h.old; omega)), fun k => ?_, fun k b' hk' => ?_, fun k j x h1 h2 => ?_, fun k x hx => ?_, ?_, h.old⟩
  · by_cases e : k = low
    · subst e
      rw [if_pos rfl, hs]
      exact ⟨(fun h' => by cases h'), fun h' => absurd h' hT⟩
    · rw [if_neg e]
      exact h.nones k
  · by_cases e : k = low
    · subst e
      rw [hs] at hk'
      cases hk'
      simp only [if_true]
      exact hb
    · simp only [e, if_false]
      exact (h.blk k b' hk').keep (fun x hx hl => hk.block x hl (fun hS => e (h.apart k low x hx hS))) (fun _ h => h)
  · (try simp only at h1 h2)
    by_cases e1 : k = low <;> by_cases e2 : j = low
    · rw [e1, e2]
    · rw [if_pos e1] at h1
      rw [if_neg e2] at h2
      rcases h1 with h1 | h1
      · exact absurd (h.apart low j x h1 h2).symm e2
      · have := (h.low j x h2).2
        omega
    · rw [if_neg e1] at h1
      rw [if_pos e2] at h2
      rcases h2 with h2 | h2
      · exact absurd (h.apart k low x h1 h2) e1
      · have := (h.low k x h1).2
        omega
    · rw [if_neg e1] at h1
      rw [if_neg e2] at h2
      exact h.apart k j x h1 h2
  · (try simp only at hx)
    by_cases e : k = low
    · rw [if_pos e] at hx
      rcases hx with hx | hx
      · have := h.low low x hx
        omega
      · omega
    · rw [if_neg e] at hx
      have := h.low k x hx
      omega
  · exact ⟨hk.os.trans h.keeps.os, hk.tape.trans h.keeps.tape, hk.output.trans h.keeps.output, Nat.le_trans hsz hsz', fun x hx hn => (hk.block x (by omega) (fun hS => by have := (h.low low x hS).1; omega)).trans (h.keeps.block x hx hn)⟩

/-- One element behind a row of one's own, as a walk's fact. -/
theorem append_run (W : World) (base : Nat) (t e : TypeId) (z : Value) (size bytes : Nat) (ht : Try.prog.underlying t = some (.slice e)) (hinfo : (Try.prog.info? e).map (fun i => (i.zero, i.size, i.bytes)) = some (some z, size, bytes)) (hz : z.cells.size = size) (hs0 : 0 < size) (hb0 : 0 < bytes)
    (v : Value) (n : Nat) (xs ys : List Value) (hys : ys.length = size) (h1 : ∀ u ∈ ys, u.oneCell' = true) (HO : W.ownsRow base e size v n xs) (hbase : base ≤ W.heap.size) (hl : (n + 1) * bytes ≤ 140737488355328) :
    ∃ v1 w1, (Builtin.append_ #[t, t] t #[v, .slice (some ⟨W.heap.size, 0, none⟩) 1 1]).run Try.prog ((W.alloc (.cells ys.toArray e)).drew) = .ok v1 w1 ∧ w1.ownsRow base e size v1 (n + 1) (xs ++ ys) ∧ W.grownBy w1 v.ownBlock ∧ (v1.ownBlock = v.ownBlock ∨ ∃ b, v1.ownBlock = some b ∧ W.heap.size ≤ b) := by
  obtain ⟨i0, hi, hzz⟩ := Option.map_eq_some_iff.1 hinfo
  simp only [Prod.mk.injEq] at hzz
  obtain ⟨hz0, hz1, hz2⟩ := hzz
  have hlen : n + 1 ≤ 140737488355328 := Nat.le_trans (Nat.le_mul_of_pos_right _ hb0) hl
  have HO' : (W.drew).ownsRow base e size v n xs := HO
  obtain ⟨v1, w1, hr, hown, hg, _, hat⟩ := run_append_own_at (P := Try.prog) (W.drew.alloc (.cells ys.toArray e)) base t t e i0 z size bytes ht hi hz0 hz1 hz2 hz hs0 v n xs (HO'.alloc _) ⟨W.heap.size, 0, none⟩ 1 1 ys (by rw [hys]; simp)
    (by simpa using World.news_of_block (cs := ys.toArray) (t := e) (fr := (0, 0)) (heap_alloc_new W.drew (.cells ys.toArray e))) h1 (by simp only [maxLen]; omega) hl (by simp; omega)
  refine ⟨v1, w1, hr, hown, ?_, ?_⟩
  · have hg' : W.drew.grownBy w1 v.ownBlock := World.grownBy.trans (World.grownBy_alloc W.drew _ _) hg
    exact ⟨hg'.os, hg'.tape, hg'.output, hg'.size, hg'.block⟩
  · rcases hat with hat | hat
    · exact .inl hat
    · exact .inr ⟨_, hat, by simp⟩

theorem info36 : (Try.prog.info? 36).map (fun i => (i.zero, i.size, i.bytes)) = some (some (.agg #[.string ⟨#[]⟩, .slice none 0 0]), 2, 40) := by kernel_rfl
theorem info56 : (Try.prog.info? 56).map (fun i => (i.zero, i.size, i.bytes)) = some (some (.agg #[.int .i64 0, .int .i64 0, .int .i64 0, .int .i64 0, .int .u64 0, .int .u64 0, .int .i64 0, .slice none 0 0, .slice none 0 0]), 9, 104) := by kernel_rfl
theorem info42 : (Try.prog.info? 42).map (fun i => (i.zero, i.size, i.bytes)) = some (some (.agg #[.int .i64 0, .int .i64 0, .int .i64 0, .slice none 0 0]), 4, 48) := by kernel_rfl

theorem sample_one (T : Int) : ∀ u ∈ sampleCells T, u.oneCell' = true := by
  intro u hu
  simp only [sampleCells, List.mem_cons, List.not_mem_nil, or_false] at hu
  rcases hu with rfl | rfl | rfl | rfl | rfl | rfl | rfl | rfl | rfl <;> rfl

/-- A block, behind one sample more. -/
theorem blk_put_sample {G G1 : World} {Sx : Nat → Prop} {base b r c : Nat} {low T : Int} {cur : Array Value} {sv : Value} {A2 : Option Addr} {c2 : Nat} {ts : List Int}
    (hb : G.heap[b]? = some (.cells #[.int .i64 low, .int .i64 (low + 64), .int .i64 0, .slice (some ⟨r, 0, none⟩) 1 c] 42 (0, 0))) (hr : G.heap[r]? = some (.cells cur 36 (0, 0))) (h0 : cur[0]? = some (.string keyB)) (h1 : cur[1]? = some sv)
    (hSb : Sx b) (hSr : Sx r) (hSv : ∀ k, sv.ownBlock = some k → Sx k) (hne : r ≠ b) (hsv : ∀ k, sv.ownBlock = some k → k ≠ b ∧ k ≠ r)
    (hown : G1.ownsRow base 56 9 (.slice A2 (ts.length + 1) c2) (ts.length + 1) (ts.flatMap sampleCells ++ sampleCells T)) (hg : G.drew.grownBy G1 sv.ownBlock)
    (hat : (Value.slice A2 (ts.length + 1) c2).ownBlock = sv.ownBlock ∨ ∃ k, (Value.slice A2 (ts.length + 1) c2).ownBlock = some k ∧ G.drew.heap.size ≤ k) :
    Keeps (fun x => x = r ∨ sv.ownBlock = some x) G (G1.setCell ⟨r, 1, none⟩ (.slice A2 (ts.length + 1) c2)) ∧
      BlkIn (G1.setCell ⟨r, 1, none⟩ (.slice A2 (ts.length + 1) c2)) (fun x => Sx x ∨ G.heap.size ≤ x ∧ x < (G1.setCell ⟨r, 1, none⟩ (.slice A2 (ts.length + 1) c2)).heap.size) base b low (ts ++ [T]) := by
  have hb1 : G1.heap[b]? = some (.cells #[.int .i64 low, .int .i64 (low + 64), .int .i64 0, .slice (some ⟨r, 0, none⟩) 1 c] 42 (0, 0)) := (hg.block b (blk_lt hb) (fun e => (hsv _ e.symm).1 rfl)).trans hb
  have hr1 : G1.heap[r]? = some (.cells cur 36 (0, 0)) := (hg.block r (blk_lt hr) (fun e => (hsv _ e.symm).2 rfl)).trans hr
  have hlt1 : 1 < cur.size := (Array.getElem?_eq_some_iff.1 h1).1
  refine ⟨⟨hg.os, hg.tape, hg.output, by simpa [World.setCell] using hg.size, fun k hk hn => ?_⟩, r, c, .slice A2 (ts.length + 1) c2, _, .inl hSb, .inl hSr, (Below.heap_setCell _ _ _ _ (fun e => hne e.symm)).trans hb1, blk_set hr1 1 _, ?_, ?_, ?_, ?_⟩
  · exact (Below.heap_setCell _ _ _ _ (fun e => hn (.inl e))).trans (hg.block k hk (fun e => hn (.inr e.symm)))
  · rw [Array.getElem?_setIfInBounds_ne (by decide)]
    exact h0
  · rw [Array.getElem?_setIfInBounds_self_of_lt hlt1]
  · have hm := own_setCell (p := ⟨r, 1, none⟩) hown (fun e => ?_) (.slice A2 (ts.length + 1) c2)
    · rw [List.flatMap_append, List.length_append]
      simpa using hm
    · rcases hat with hat | ⟨k, hk, hle⟩
      · rw [hat] at e
        exact (hsv r e.symm).2 rfl
      · rw [hk] at e
        have : k = r := by injection e with e; exact e.symm
        have h2 := blk_lt hr
        have h3 : G.heap.size ≤ k := hle
        omega
  · intro k hk
    rcases hat with hat | ⟨k', hk', hle⟩
    · exact .inl (hSv k (hat ▸ hk))
    · rw [hk'] at hk
      have : k' = k := by injection hk
      subst this
      refine .inr ⟨hle, ?_⟩
      have h2 := own_lt hown k' hk'
      simpa [World.setCell] using h2

theorem close_new {X wr U wc w' : World} {M n b r : Nat} {ts : Int → List Int} {m : Int → Option Nat} {S : Int → Nat → Prop} {lw T : Int} (h : Made X wr M n ts m S) (hnone : m lw = none) (hm : MapAt U M (n + 1) (upd m lw (some b))) (hkU : Keeps (fun x => x = M) wr U)
    (hkc : Keeps (fun x => x = b) U wc) (hk : Keeps (fun x => x = r ∨ (Value.slice none 0 0).ownBlock = some x) wc w') (hb : wr.heap.size ≤ b) (hr : wr.heap.size ≤ r) (hblk : BlkIn w' (fun x => (wr.heap.size ≤ x ∧ x < wc.heap.size) ∨ wc.heap.size ≤ x ∧ x < w'.heap.size) X.heap.size b lw ([] ++ [T])) :
    ∃ S', Made X w' M (n + 1) (fun x => if x = lw then ts x ++ [T] else ts x) (upd m lw (some b)) S' := by
  have hM := h.map.lt
  have h1 := hkU.size
  have h2 := hkc.size
  have h3 := hk.size
  have hno : ∀ x, ¬ ((Value.slice none 0 0).ownBlock = some x) := fun x e => by simp [Value.ownBlock] at e
  have hall : Keeps (fun x => x = M) wr w' := ⟨hk.os.trans (hkc.os.trans hkU.os), hk.tape.trans (hkc.tape.trans hkU.tape), hk.output.trans (hkc.output.trans hkU.output), by omega,
    fun k hk1 hn => (hk.block k (by omega) (fun e => by rcases e with e | e; omega; exact hno k e)).trans ((hkc.block k (by omega) (by omega)).trans (hkU.block k hk1 hn))⟩
  obtain ⟨S', hS⟩ := h.stored (T := [T]) hnone (hm.keep ((hk.block M (by omega) (fun e => by rcases e with e | e; omega; exact hno M e)).trans (hkc.block M (by omega) (by omega)))) hall (hblk.keep (fun _ _ _ => rfl) (fun x hx => by omega)) (by simp)
  refine ⟨S', ?_⟩
  have e : (fun x => if x = lw then ts x ++ [T] else ts x) = fun x => if x = lw then [T] else ts x := by
    funext x
    by_cases hx : x = lw
    · rw [if_pos hx, if_pos hx, hx, (h.nones lw).1 hnone]
      rfl
    · rw [if_neg hx, if_neg hx]
  rw [e]
  exact hS

theorem close_old {X wr G w' : World} {M n b r : Nat} {sv : Value} {ts : Int → List Int} {m : Int → Option Nat} {S : Int → Nat → Prop} {lw T : Int} (h : Made X wr M n ts m S) (hs : m lw = some b) (hG : Below wr.heap.size wr G) (hk : Keeps (fun x => x = r ∨ sv.ownBlock = some x) G w') (hr : S lw r) (hsv : ∀ k, sv.ownBlock = some k → S lw k)
    (hblk : BlkIn w' (fun x => S lw x ∨ G.heap.size ≤ x ∧ x < w'.heap.size) X.heap.size b lw (ts lw ++ [T])) :
    ∃ S', Made X w' M n (fun x => if x = lw then ts x ++ [T] else ts x) m S' := by
  have h1 := hG.size
  have h3 := hk.size
  obtain ⟨S', hS⟩ := h.grew (T := ts lw ++ [T]) hs ⟨hk.os.trans hG.os, hk.tape.trans hG.tape, hk.output.trans hG.output, by omega, fun k hk1 hn => (hk.block k (by omega) (fun e => hn (by rcases e with e | e; exact e ▸ hr; exact hsv k e))).trans (hG.block k hk1)⟩
    (hblk.keep (fun _ _ _ => rfl) (fun x hx => by rcases hx with hx | hx; exact .inl hx; exact .inr (by omega))) (by simp)
  refine ⟨S', ?_⟩
  have e : (fun x => if x = lw then ts x ++ [T] else ts x) = fun x => if x = lw then ts lw ++ [T] else ts x := by
    funext x
    by_cases hx : x = lw
    · rw [if_pos hx, if_pos hx, hx]
    · rw [if_neg hx, if_neg hx]
  rw [e]
  exact hS

theorem tsAt_length (i : Nat) (x : Int) : (tsAt i x).length ≤ i := by
  induction i with
  | zero => simp [tsAt]
  | succ i ih =>
    simp only [tsAt]
    split
    · rw [List.length_append]
      simp
      omega
    · omega

theorem inv2 : ∀ key kl, keyOf Try.prog 2 key = some kl → ∃ x, key = Value.int .i64 x := fun key kl hk => by obtain ⟨x, hx, _⟩ := Maps.keyOf_int_inv Try.underlying2 hk; exact ⟨x, hx⟩
theorem inv63 : ∀ v y, ptrElem v = some y → ∃ c, v = ptr c := fun v y hv => by obtain ⟨o, rfl, _⟩ := ptrElem_inv hv; exact ⟨o, rfl⟩

/-- What an entry that has come tells. -/
theorem came {D : DataW Unit} {m : Int → Option Nat} (h1 : ∀ k, Maps.has D (.int .i64 k) = (m k).isSome) (h2 : ∀ k, D.atKey (.int .i64 k) .nil = enc (m k)) {x : Int} {o : Option Nat} {y : DataW Unit × List MemPlace} (hv : ptrElem (ptr o) = some y) (hat : ∀ zd, D.atKey (.int .i64 x) zd = y.1) :
    ∃ f, o = some f ∧ m x = some f := by
  rw [ptrElem_ptr] at hv
  cases hv
  have e1 : m x = o := enc_inj ((h2 x).symm.trans (hat .nil))
  have e2 := h1 x
  rw [has_true_of_atKey hat, e1] at e2
  cases o with
  | none => cases e2
  | some f => exact ⟨f, rfl, e1⟩

/-- A block's cells. -/
abbrev blkCells (rv : Int → Value) (k : Int) : List Value := [.int .i64 k, .int .i64 (k + 64), .int .i64 0, rv k]

/-- The blocks that have come out of the map. -/
def OutRel (wr : World) (M n it : Nat) (es : List (Lit × DataW Unit)) (m : Int → Option Nat) (rv : Int → Value) (v : Value) (wx : World) : Prop :=
  ∃ (left : Lit → Bool) (cnt : Nat) (ks : List Int), wx.ranges Try.prog 2 ptrElem M it n (.map es) left cnt ∧ ks.Nodup ∧ (∀ k, k ∈ ks ↔ ((m k).isSome = true ∧ left (.int .i64 k) = false)) ∧
    wx.ownsRow wr.heap.size 42 4 v ks.length (ks.flatMap (blkCells rv)) ∧ Below wr.heap.size wr wx

theorem keys_two {ks : List Int} (hn : ks.Nodup) (h : ∀ k ∈ ks, k = 0 ∨ k = 64) : ks = [] ∨ ks = [0] ∨ ks = [64] ∨ ks = [0, 64] ∨ ks = [64, 0] := by
  match ks, hn, h with
  | [], _, _ => exact .inl rfl
  | [a], _, h => rcases h a (by simp) with rfl | rfl <;> simp
  | [a, b], hn, h =>
    have hab : a ≠ b := by
      intro e
      subst e
      simp at hn
    rcases h a (by simp) with rfl | rfl <;> rcases h b (by simp) with rfl | rfl
    · exact absurd rfl hab
    · simp
    · simp
    · exact absurd rfl hab
  | a :: b :: c :: r, hn, h =>
    exfalso
    have h1 := h a (by simp)
    have h2 := h b (by simp)
    have h3 := h c (by simp)
    simp only [List.nodup_cons, List.mem_cons, not_or] at hn
    have := hn.1.1
    have := hn.1.2.1
    have := hn.2.1.1
    omega

theorem left_after {left : Lit → Bool} {x k : Int} : (left (.int .i64 k) && !(Lit.int .i64 k).sameKey (.int .i64 x)) = false ↔ (left (.int .i64 k) = false ∨ k = x) := by
  by_cases e : k = x
  · subst e
    simp [WideAt.sameKey_self (isKey k)]
  · have : (Lit.int .i64 k).sameKey (.int .i64 x) = false := by
      cases hs : (Lit.int .i64 k).sameKey (.int .i64 x) with
      | false => rfl
      | true =>
        have := WideAt.sameKey_eq hs
        exact absurd (by injection this) e
    rw [this]
    simp [e]

theorem begins_of_own {w : World} {base g n c : Nat} {cs : List Value} (h : w.ownsRow base 42 4 (.slice (some ⟨g, 0, none⟩) n c) n cs) : Begins w g cs ∧ base ≤ g := by
  rcases h.2 with ⟨e, _⟩ | ⟨g', cap, cur, e, hbase, hg, _⟩
  · cases e
  · have hgr : g' = g := by injection e with e1; injection e1 with e1; injection e1 with e1; exact e1.symm
    subst hgr
    refine ⟨⟨cur, hg, fun j v hj => ?_⟩, hbase⟩
    have := h.cells (g := g') rfl j v hj
    rwa [add_plain, blk_cell hg] at this

end Go.Proofs.Ytieoilnkfnlbaaa
