/- A loss of power (2). -/
import Derived.Test.YtolpgajodhondaaD12
namespace Go.Proofs.Ytolpgajodhondaa
open Go.RowKit Go.Maps Go.Sort Go.WideMaps Go.Proofs.YtolpgajodhondaaW.PrintWords

theorem MapAt.empty {w : World} {b : Nat} (hb : w.heap[b]? = some (.map #[] 0)) : MapAt w b 0 (fun _ => none) :=
  ⟨.map [], ⟨#[], 0, hb, ⟨by simp, MapKept.stamped_empty 0, by simp⟩, Nat.le_refl _, rfl⟩, fun _ => rfl, fun _ => rfl⟩

/-- A row that is read, each element good. -/
def RowOf (w : World) (v : Value) (good : Value → Prop) : Prop :=
  ∃ (P : Option Addr) (n c : Nat), v = .slice P n c ∧ n ≤ 9223372036854775807 ∧ (0 < n → ∃ ad, P = some ad ∧ ∀ j, j < n → ∃ u, w.cell? (ad.add j) = some u ∧ good u)

/-- A row of numbers that is read. -/
def CutRow (w : World) (v : Value) (xs : List Nat) : Prop :=
  ∃ (P : Option Addr) (c : Nat), v = .slice P xs.length c ∧ xs.length ≤ 9223372036854775807 ∧ (0 < xs.length → ∃ ad, P = some ad ∧ ∀ j, j < xs.length → w.cell? (ad.add j) = some (.int .u16 ((xs.getD j 0 : Nat) : Int)) ∧ xs.getD j 0 ≤ 65535)

/-- How much of a file stays. -/
def cutLen (cut : List Nat) (i s l : Nat) : Nat := if s < l ∧ i < cut.length then s + cut.getD i 0 % (l - s + 1) else s
theorem cutLen_ge (cut : List Nat) (i s l : Nat) : s ≤ cutLen cut i s l := by
  unfold cutLen
  split <;> omega
theorem cutLen_le (cut : List Nat) (i s l : Nat) (h : s ≤ l) : cutLen cut i s l ≤ l := by
  unfold cutLen
  split
  · have := Nat.mod_lt (cut.getD i 0) (show 0 < l - s + 1 by omega)
    omega
  · exact h

def cutTo (x : List UInt8 × Nat) (n : Nat) : List UInt8 × Nat := (x.1.take n, n)

def Disk.came (A : Disk) (cut : List Nat) (ts : List (List UInt8)) (k : List UInt8) (x : List UInt8 × Nat) : Prop :=
  ∃ f i, (A.sure k = some f ∨ A.names k = some f) ∧ ts[i]? = some k ∧ x = cutTo (A.file f) (cutLen cut i (A.file f).2 (A.file f).1.length)

/-- What stays behind a loss of power. -/
structure CrashKept (A : Disk) (cut : List Nat) (ts : List (List UInt8)) (m : List UInt8 → Option Nat) (F : Nat → List UInt8 × Nat) : Prop where
  came : ∀ k g, m k = some g → A.came cut ts k (F g)
  stay : ∀ k f, A.names k = some f → A.sure k = some f → (m k).isSome = true
  nodup : ts.Nodup
  some : ∀ k ∈ ts, (A.names k).isSome = true ∨ (A.sure k).isSome = true

def Disk.crashed (A : Disk) (m : List UInt8 → Option Nat) (F : Nat → List UInt8 × Nat) : Disk := { room := A.room, fuse := -1, steps := 0, down := false, names := m, sure := m, file := F }

def CrashPost (w : World) (A : Disk) (cut : List Nat) (N L : Nat) (e : Ending) (w' : World) : Prop :=
  ∃ o nb sb ts m F, e = .returned (.pointer (some ⟨o, 0, none⟩)) ∧ DiskIn w' (fun k => w.heap.size ≤ k) o nb sb (2 * N) L (A.crashed m F) ∧ CrashKept A cut ts m F ∧ Below w.heap.size w w'

def AllRel (w1 : World) (A : Disk) (N sb it : Nat) (es : List (Lit × DataW Unit)) (v : Value) (wr : World) : Prop :=
  ∃ left cnt ks, wr.ranges Try.prog 9 ptrElem sb it N (.map es) left cnt ∧ (ks.Nodup ∧ ∀ k ∈ ks, (A.names k).isSome = true ∨ ((A.sure k).isSome = true ∧ left (.string k) = false)) ∧ ks.length + sumLeft (fun _ => 1) left es ≤ 2 * N ∧ (∀ k, (A.names k).isSome = true → k ∈ ks) ∧ (∀ k ∈ ks, k.length ≤ maxLen) ∧
    wr.ownsRow w1.heap.size 9 1 v ks.length (encs encStr ks) ∧ Below w1.heap.size w1 wr

def MadeRel (w4 : World) (A : Disk) (cut : List Nat) (L M : Nat) (ts : List (List UInt8)) (i : Nat) (wr : World) : Prop :=
  ∃ (m : List UInt8 → Option Nat) (F : Nat → List UInt8 × Nat), MapAt wr M i m ∧ Keeps (fun k => k = M) w4 wr ∧ (∀ k g, m k = some g → w4.heap.size ≤ g ∧ FileAt wr (fun b => w4.heap.size ≤ b) g L (F g) ∧ A.came cut ts k (F g)) ∧
    ∀ j, j < i → ∀ f, A.names (ts.getD j []) = some f → A.sure (ts.getD j []) = some f → (m (ts.getD j [])).isSome = true

set_option maxHeartbeats 4000000 in
set_option maxRecDepth 100000 in
theorem crash_any (w : World) (S : Nat → Prop) (d nb sb N L : Nat) (A : Disk) (vk vc : Value) (cut : List Nat) (hN : N ≤ 4398046511103) (hL : L ≤ 1152921504606)
    (hvk : RowOf w vk fun u => ∃ b, u = .bool b) (hvc : CutRow w vc cut) (h : DiskIn w S d nb sb N L A) :
    Calls Try.prog 14 #[.pointer (some ⟨d, 0, none⟩), vk, vc] w (CrashPost w A cut N L) := by
  have HI := Aside0.mk h
  have c0 : w.cell? ⟨d, 0, none⟩ = some (.int .i64 A.room) := h.cells.1 0
  have c1 : w.cell? ⟨d, 1, none⟩ = some (.map (some nb)) := h.cells.1 1
  have c2 : w.cell? ⟨d, 2, none⟩ = some (.map (some sb)) := h.cells.1 2
  have hd : d < w.heap.size := blk_lt h.blk
  have HVK := Aside0.mk hvk
  have HVC := Aside0.mk hvc
  clear h hvk hvc
  have hmm := @run_makeMap Try.prog
  go_enter Try.func14, Try.ntmps14
  go_wp2_with fail
  clear hmm
  have HW1 : ∃ w1, w1 = (w.alloc (Obj.map #[] 0)).alloc (Obj.cells #[Value.int IntKind.i64 A.room, Value.map (some w.heap.size), Value.map none, Value.int IntKind.i64 (-1), Value.int IntKind.i64 0, Value.bool false] 56) := ⟨_, rfl⟩
  obtain ⟨w1, hw1⟩ := HW1
  rw [← hw1]
  have hb1 : Below w.heap.size w w1 := by rw [hw1]; exact ((Below.refl _ _).alloc (Nat.le_refl _) _).alloc (by simp) _
  have hs1 : w1.heap.size = w.heap.size + 2 := by rw [hw1]; simp
  have hm1 : w1.heap[w.heap.size]? = some (.map #[] 0) := by rw [hw1, Below.heap_alloc _ _ _ (by simp)]; exact heap_alloc_new w _
  have ho1 : w1.heap[w.heap.size + 1]? = some (.cells #[Value.int IntKind.i64 A.room, Value.map (some w.heap.size), Value.map none, Value.int IntKind.i64 (-1), Value.int IntKind.i64 0, Value.bool false] 56 (0, 0)) := by
    rw [hw1]
    have := heap_alloc_new (w.alloc (Obj.map #[] 0)) (Obj.cells #[Value.int IntKind.i64 A.room, Value.map (some w.heap.size), Value.map none, Value.int IntKind.i64 (-1), Value.int IntKind.i64 0, Value.bool false] 56)
    simpa using this
  have HI1 := Aside0.mk (HI.out.beside hb1)
  have HB1 := Aside0.mk hb1
  have HS1 := Aside0.mk hs1
  have HM1 := Aside0.mk hm1
  have HO1 := Aside0.mk ho1
  have hsorted := Aside0.mk (sorted_any w1 nb N A.names HI1.out.names (by omega))
  obtain ⟨D, hown, hh, ha⟩ := HI1.out.sure
  obtain ⟨es, hes, hap, hkey⟩ := hown.entries law9
  subst hes
  have HOWN := Aside0.mk hown
  have HH := Aside0.mk hh
  have HA := Aside0.mk ha
  have HP := Aside0.mk hap
  have HKEY := Aside0.mk hkey
  have hd1 : d < w1.heap.size := by omega
  clear hb1 hs1 hm1 ho1 hw1 hown hh ha hap hkey c0 c1 c2
  go_wp2_with (first
    | (go_at_call 34; refine (keysFn_any _ _).mono ?_; rintro e w' ⟨rfl, rfl⟩)
    | (go_at_call 33; refine hsorted.out.mono ?_; rintro e w2 ⟨v, ks, rfl, hk, hrow, hb⟩
       have c2 : w2.cell? ⟨d, 2, none⟩ = some (.map (some sb)) := (HI1.out.beside hb).cells.1 2
       have HK := Aside0.mk hk
       have HROW := Aside0.mk hrow
       have HB2 := Aside0.mk hb
       have hown2 := Aside0.mk (ownsMap_block HOWN.out (hb.block sb HOWN.out.lt))
       clear hk hrow hb hsorted)
    | (at_range; refine wpList_range_own _ rfl _ 54 rfl 9 57 law9 Try.underlying54 _ sb N _ rfl hown2.out ?_; intro w0 hrg0 hg0 hs0; have HRG0 := Aside0.mk hrg0; have HG0 := Aside0.mk hg0; clear hrg0 hg0 hs0)
    | go_in)
  go_frame
  go_loopw [8] (fun v wr => AllRel w1 A N sb w2.heap.size es v wr) (fun _ wr => wr.rangeLeft sb w2.heap.size)
  case atStart =>
    refine ⟨_, _, ks, HRG0.out, ⟨HK.out.nodup, fun k hk => .inl ((HK.out.mem k).1 hk)⟩, ?_, fun k hk => (HK.out.mem k).2 hk, HK.out.short, HROW.out.kept HG0.out (Classical.em _), HB2.out.grown HG0.out HB2.out.size (fun j hj => by cases hj)⟩
    have h1 := HK.out.len
    have h2 := HOWN.out.size_le
    have h3 := sumLeft_le (fun _ => 1) (Maps.has (.map es)) 1 es (fun _ _ => Nat.le_refl _)
    simp [Maps.size] at h2
    omega
  case round =>
    obtain ⟨left, cnt, ks', hrg, hnod, hlen, hcov, hshort, hrow, hb⟩ := hrel
    have HND := Aside0.mk hnod
    have HRG := Aside0.mk hrg
    have HLEN := Aside0.mk hlen
    have HCOV := Aside0.mk hcov
    have HSH := Aside0.mk hshort
    have HR := Aside0.mk hrow
    have HB := Aside0.mk hb
    clear hrg hnod hlen hcov hshort hrow hb
    go_wp2_with (first
      | (at_next; refine wpList_next_ranges _ rfl _ rfl 9 law9 ptrElem encStr ptr inv9 inv57 sb w2.heap.size N _ _ _ rfl HRG.out ?_ ?_)
      | go_in)
    · intro hc0 hl0
      have hlen : ks'.length < 4611686018427387904 := by have := HLEN.out; omega
      have hsort := Aside0.mk (sort_any _ _ _ _ HR.out hlen)
      clear hc0 hl0 hlen
      go_wp2_with (go_at_call 35; refine hsort.out.mono ?_; rintro e w4 ⟨rfl, ts, hperm, hown, hg⟩; obtain ⟨A1, cA, rfl⟩ := own_slice hown; have HO4 := Aside0.mk hown; have HG4 := Aside0.mk hg; have HPM := Aside0.mk hperm; clear hown hg hperm hsort)
      have hb14 : Below w1.heap.size w1 w4 := HB.out.grown HG4.out HB.out.size (fun j hj => own_base HR.out j hj)
      have hs14 := hb14.size
      have hb4 : Below w.heap.size w w4 := HB1.out.trans (hb14.mono (by have := HS1.out; omega))
      have hM4 : w.heap.size < w4.heap.size := by have := HS1.out; omega
      have hm4 : MapAt w4 w.heap.size 0 (fun _ => none) := MapAt.empty ((hb14.block _ (by have := HS1.out; omega)).trans HM1.out)
      have ho4 : w4.heap[w.heap.size + 1]? = _ := (hb14.block _ (by have := HS1.out; omega)).trans HO1.out
      have hcov4 : ∀ k, (A.names k).isSome = true → k ∈ ts := fun k hk => HPM.out.mem_iff.2 (HCOV.out k hk)
      have hsh4 : ∀ k ∈ ts, k.length ≤ maxLen := fun k hk => HSH.out k (HPM.out.mem_iff.1 hk)
      have hl4 : ts.length ≤ 2 * N := by
        have h1 := HPM.out.length_eq
        have h2 := HLEN.out
        omega
      have hnd4 : ts.Nodup ∧ ∀ k ∈ ts, (A.names k).isSome = true ∨ (A.sure k).isSome = true := ⟨HPM.out.nodup_iff.2 HND.out.1, fun k hk => (HND.out.2 k (HPM.out.mem_iff.1 hk)).imp id And.left⟩
      have HND4 := Aside0.mk hnd4
      have HB4 := Aside0.mk hb4
      have HN4 := Aside0.mk hM4
      have HM4 := Aside0.mk hm4
      have HOB4 := Aside0.mk ho4
      have HCOV4 := Aside0.mk hcov4
      have HSH4 := Aside0.mk hsh4
      have HL4 := Aside0.mk hl4
      have HS14 := Aside0.mk hs14
      clear hnd4 hb14 hs14 hb4 hM4 hm4 ho4 hcov4 hsh4 hl4 HR HG4 HPM HCOV HSH HLEN HB HRG HOWN HH HA HP HKEY HK HROW HB2 hown2 HRG0 HG0 c2 HM1 HO1 hd1
      go_loopg [61] ts.length (fun kq v wr => ∃ i : Nat, v = .int .i64 i ∧ i + kq = ts.length ∧ MadeRel w4 A cut L w.heap.size ts i wr)
      case atStart => exact ⟨0, rfl, by omega, _, fun _ => ([], 0), HM4.out, Keeps.refl _ _, fun k g hk => by simp at hk, fun j hj => by omega⟩
      case round =>
        obtain ⟨i, rfl, hik, m, F, hm, hk, hf, hst⟩ := hrel
        have hob : wr.heap[w.heap.size + 1]? = _ := (hk.block _ (by have := HS1.out; have := HS14.out; omega) (by omega)).trans HOB4.out
        have hbw : Below w.heap.size w wr := HB4.out.trans (hk.below (Nat.le_of_lt HN4.out) (fun k hk => Nat.le_of_eq hk.symm))
        have HIK := Aside0.mk hik
        have HM := Aside0.mk hm
        have HKP := Aside0.mk hk
        have HF := Aside0.mk hf
        have HST := Aside0.mk hst
        have HOB := Aside0.mk hob
        have HBW := Aside0.mk hbw
        cases gk with
        | zero =>
          have hi : i = ts.length := by omega
          have hlt : decide (i < ts.length) = false := decide_eq_false (by omega)
          have o1 : wr.cell? ⟨w.heap.size + 1, 1, none⟩ = some (.map (some w.heap.size)) := blk_cell hob 1
          have HE := Aside0.mk hi
          clear hi hik hm hk hf hst hob hbw
          go_wp2_with (go_at_call 27; refine (mapClone_any wr w.heap.size i m HM.out).mono ?_; rintro e w6 ⟨rfl, hm6, hb6⟩; have ob6 : w6.heap[w.heap.size + 1]? = _ := (hb6.block _ (blk_lt HOB.out)).trans HOB.out; have o2 := blk_cell ob6 2; have q2 := blk_frozen ob6 2; simp only [List.getElem?_toArray, List.getElem?_cons_zero, List.getElem?_cons_succ] at o2; have HM6 := Aside0.mk hm6; have HB6 := Aside0.mk hb6; have HOB6 := Aside0.mk ob6; clear hm6 hb6 ob6)
          go_ret
          have hs4 := HN4.out
          have hsw := HKP.out.size
          have hs1 := HS1.out
          have hs14 := HS14.out
          have hmlt := HM.out.lt
          have hset : ∀ k, k ≠ w.heap.size + 1 → (w6.setCell ⟨w.heap.size + 1, 2, none⟩ (.map (some wr.heap.size))).heap[k]? = w6.heap[k]? := fun k hk => Below.heap_setCell _ _ _ _ hk
          have hall : ∀ k, k ≠ w.heap.size + 1 → k < wr.heap.size → (w6.setCell ⟨w.heap.size + 1, 2, none⟩ (.map (some wr.heap.size))).heap[k]? = wr.heap[k]? := fun k hk hl => (hset k hk).trans (HB6.out.block k hl)
          have hi2 : i ≤ 2 * N := by have := HE.out; have := HL4.out; omega
          refine ⟨w.heap.size + 1, w.heap.size, wr.heap.size, ts, m, F, rfl, ⟨?_, Nat.le_refl _, ?_, ?_, ?_, ?_, ?_, ?_⟩, ⟨fun k g hk => (HF.out k g hk).2.2, ?_, HND4.out.1, HND4.out.2⟩, ?_⟩
          · show w.heap.size ≤ w.heap.size + 1
            omega
          · show w.heap.size ≤ wr.heap.size
            omega
          · omega
          · exact blk_put HOB6.out 2 _ rfl
          · exact (HM.out.keep (hall _ (by omega) hmlt)).mono hi2
          · exact (HM6.out.keep (hset _ (by omega))).mono hi2
          · rintro f ⟨k, hk⟩
            have hk' : m k = some f := by rcases hk with hk | hk <;> exact hk
            exact (HF.out k f hk').2.1.keep (fun b hb hl => hall b (by omega) hl) (fun b hb => by omega)
          · intro k f h1 h2
            have hmem := HCOV4.out k (by rw [h1]; rfl)
            obtain ⟨j, hj, e⟩ := List.getElem_of_mem hmem
            have hg : ts.getD j [] = k := by rw [List.getD_eq_getElem?_getD, List.getElem?_eq_getElem hj, e]; rfl
            have := HST.out j (by have := HE.out; omega) f (by rw [hg]; exact h1) (by rw [hg]; exact h2)
            rwa [hg] at this
          · exact (HBW.out.trans (HB6.out.mono (Nat.le_of_lt hmlt))).setCell (Nat.le_succ _) _
        | succ q =>
          have hi : i < ts.length := by omega
          have hlt : decide (i < ts.length) = true := decide_eq_true (by omega)
          have htl : ts.length ≤ 8796093022206 := by have := HL4.out; omega
          have hinr := HI.out.beside hbw
          have hget : ts[i]? = some (ts.getD i []) := by rw [List.getD_eq_getElem?_getD, List.getElem?_eq_getElem hi]; rfl
          have hkl : (ts.getD i []).length ≤ maxLen := HSH4.out _ (List.mem_of_getElem? hget)
          have hrow : ∃ ad, A1 = some ad ∧ wr.cell? (ad.add i) = some (encStr (ts.getD i [])) := by
            rcases HO4.out.2 with ⟨e, _⟩ | ⟨g, cap, cur, e, hb, _⟩
            · injection e with e1 e2
              omega
            · injection e with e1 e2
              refine ⟨⟨g, 0, none⟩, e1, ?_⟩
              have h1 := HO4.out.cells (g := g) (by rw [e1]; rfl) i (encStr (ts.getD i [])) (by rw [List.getElem?_map, hget]; rfl)
              have h2 := World.block_lt_of_cell? w4 _ h1
              rw [World.cell?_of_block (w := w4) (hk.block _ h2 (by rw [add_block]; have := HS1.out; show g ≠ w.heap.size; omega))]
              exact h1
          generalize hkk : ts.getD i [] = k at *
          have c1 : wr.cell? ⟨d, 1, none⟩ = some (.map (some nb)) := hinr.cells.1 1
          have c2 : wr.cell? ⟨d, 2, none⟩ = some (.map (some sb)) := hinr.cells.1 2
          have hl1 : (Instr.lookup 54 (.map (some sb)) (encStr k) false).run Try.prog wr = .ok (ptr (A.sure k)) wr := hinr.sure.look ⟨k.toArray⟩ (by simpa [ByteArray.size] using hkl)
          have hl2 : (Instr.lookup 54 (.map (some nb)) (encStr k) false).run Try.prog wr = .ok (ptr (A.names k)) wr := hinr.names.look ⟨k.toArray⟩ (by simpa [ByteArray.size] using hkl)
          have hneq := neq_ptr wr (A.names k) (A.sure k) (fun f hf => by obtain ⟨_, v, h2, _⟩ := hinr.files f ⟨k, .inl hf⟩; exact ⟨_, _, h2⟩) (fun f hf => by obtain ⟨_, v, h2, _⟩ := hinr.files f ⟨k, .inr hf⟩; exact ⟨_, _, h2⟩)
          have hgd := eqGuard_ptr (.tmp 78) (.tmp 79) (A.names k) (A.sure k)
          obtain ⟨ad, rfl, hcell⟩ := hrow
          obtain ⟨P1, n1, d1, rfl, hn1, hr1⟩ := HVK.out
          obtain ⟨P2, d2, rfl, hn2, hr2⟩ := HVC.out
          have HGT := Aside0.mk hget
          generalize hcl : cut.length = n2 at *
          have HCL := Aside0.mk hcl
          have HIR := Aside0.mk hinr
          have HKL := Aside0.mk hkl
          have HKK := Aside0.mk hkk
          have HR1 := Aside0.mk hr1
          have HR2 := Aside0.mk hr2
          clear hcl hik hm hk hf hst hob hbw hinr hget hkl hkk hr1 hr2
          go_upto_region 17 with fail
          go_cut [92] (fun s92 wx => wx = wr ∧ ∃ b : Bool, s92 = .bool b)
          case first =>
            by_cases hne : A.names k = A.sure k
            · rw [decide_eq_false (p := A.names k ≠ A.sure k) (by simpa using hne)] at hneq
              clear hne
              go_wp2
              go_meet
              exact ⟨rfl, _, rfl⟩
            · rw [decide_eq_true (p := A.names k ≠ A.sure k) hne] at hneq
              clear hne
              by_cases hin1 : i < n1
              · obtain ⟨ad1, rfl, hcells⟩ := HR1.out (by omega)
                obtain ⟨u, hcu', b, rfl⟩ := hcells i hin1
                have hcu := (World.cell?_of_block (HBW.out.block _ (World.block_lt_of_cell? w _ hcu'))).trans hcu'
                clear hcells hcu'
                have hlt1 : decide (i < n1) = true := decide_eq_true hin1
                go_wp2
                go_meet
                exact ⟨rfl, _, rfl⟩
              · have hlt1 : decide (i < n1) = false := decide_eq_false hin1
                clear hin1
                go_wp2
                go_meet
                exact ⟨rfl, _, rfl⟩
          case rest =>
          obtain ⟨rfl, b92, rfl⟩ := hcut
          clear hneq hgd
          go_upto_if 92 with fail
          go_cut [14] (fun s14 wx => wx = wc ∧ ∃ o, s14 = ptr o ∧ (A.sure k = o ∨ A.names k = o))
          case first =>
            cases b92
            · go_wp2
              go_meet
              exact ⟨rfl, _, rfl, .inl rfl⟩
            · go_wp2
              go_meet
              exact ⟨rfl, _, rfl, .inr rfl⟩
          case rest =>
            obtain ⟨rfl, o, rfl, ho⟩ := hcut
            have HO := Aside0.mk ho
            clear ho
            cases o with
            | none =>
              simp only [ptr_none]
              go_wp2
              go_roundg q
              case measure => omega
              case rel =>
                refine ⟨i + 1, by go_num, by have := HIK.out; omega, m, F, HM.out.mono (Nat.le_succ _), HKP.out, HF.out, fun j hj f' h1 h2 => ?_⟩
                by_cases hji : j = i
                · subst hji
                  rw [HKK.out] at h1 h2
                  rcases HO.out with h | h
                  · rw [h] at h2; cases h2
                  · rw [h] at h1; cases h1
                · exact HST.out j (by omega) f' h1 h2
            | some f =>
              simp only [ptr_some]
              have hrf : A.refs f := ⟨k, HO.out.symm⟩
              obtain ⟨a, cc, f0, f1, z0, z1, hfb, hby, hle, hfL⟩ := HIR.out.file_cells hrf
              have HBY := Aside0.mk hby
              have HFB := Aside0.mk hfb
              clear hby hfb z0 z1 hrf
              go_upto_region 22 with fail
              go_cut [114] (fun s114 wx => wx = wc ∧ ∃ b : Bool, s114 = .bool b ∧ (b = true ↔ (A.file f).2 < (A.file f).1.length ∧ i < n2))
              case first =>
                by_cases hlo : (A.file f).2 < (A.file f).1.length
                · have hlob : decide ((A.file f).2 < (A.file f).1.length) = true := decide_eq_true (by omega)
                  by_cases hi2 : i < n2
                  · have hi2b : decide (i < n2) = true := decide_eq_true hi2
                    have HC := Aside0.mk (And.intro hlo hi2)
                    clear hlo hi2
                    go_wp2
                    go_meet
                    exact ⟨rfl, true, rfl, ⟨fun _ => HC.out, fun _ => rfl⟩⟩
                  · have hi2b : decide (i < n2) = false := decide_eq_false hi2
                    have HC := Aside0.mk hi2
                    clear hlo hi2
                    go_wp2
                    go_meet
                    exact ⟨rfl, _, rfl, ⟨fun h => absurd h (by first | decide | (rw [hi2b]; decide)), fun h => absurd h.2 HC.out⟩⟩
                · have hlob : decide ((A.file f).2 < (A.file f).1.length) = false := decide_eq_false (by omega)
                  have HC := Aside0.mk hlo
                  clear hlo
                  go_wp2
                  go_meet
                  exact ⟨rfl, _, rfl, ⟨fun h => absurd h (by first | decide | (rw [hlob]; decide)), fun h => absurd h.1 HC.out⟩⟩
              case rest =>
              obtain ⟨rfl, b114, rfl, hb114⟩ := hcut
              go_upto_if 114 with fail
              go_cut [16] (fun s16 wx => wx = wc ∧ s16 = .int .i64 (cutLen cut i (A.file f).2 (A.file f).1.length : Nat))
              case first =>
                cases b114 with
                | false =>
                  have hcut0 : cutLen cut i (A.file f).2 (A.file f).1.length = (A.file f).2 := by
                    unfold cutLen
                    rw [if_neg (fun h => by have := hb114.2 ⟨h.1, by rw [← HCL.out]; exact h.2⟩; cases this)]
                  have HC0 := Aside0.mk hcut0
                  clear hb114 hcut0
                  go_wp2
                  go_meet
                  exact ⟨rfl, by rw [HC0.out]⟩
                | true =>
                  obtain ⟨hlo, hi2⟩ := hb114.1 rfl
                  clear hb114
                  obtain ⟨ad2, rfl, hcells⟩ := HR2.out (by omega)
                  obtain ⟨hcu', hx1⟩ := hcells i hi2
                  generalize hxx : cut.getD i 0 = x at *
                  have HXX := Aside0.mk hxx
                  clear hxx
                  have hcu := (World.cell?_of_block (HBW.out.block _ (World.block_lt_of_cell? w _ hcu'))).trans hcu'
                  clear hcells hcu'
                  have hy0 : 0 ≤ (x : Int) % (((A.file f).1.length : Int) - ((A.file f).2 : Int) + 1) := Int.emod_nonneg _ (by omega)
                  have hy1 : (x : Int) % (((A.file f).1.length : Int) - ((A.file f).2 : Int) + 1) < ((A.file f).1.length : Int) - ((A.file f).2 : Int) + 1 := Int.emod_lt_of_pos _ (by omega)
                  have HY := Aside0.mk (And.intro hy0 hy1)
                  clear hy0 hy1
                  go_wp2
                  go_meet
                  obtain ⟨hy0, hy1⟩ := HY.out
                  have hcl : cutLen cut i (A.file f).2 (A.file f).1.length = (A.file f).2 + x % ((A.file f).1.length - (A.file f).2 + 1) := by
                    unfold cutLen
                    rw [if_pos ⟨hlo, by rw [HCL.out]; exact hi2⟩, HXX.out]
                  have hnat : ((x % ((A.file f).1.length - (A.file f).2 + 1) : Nat) : Int) = (x : Int) % (((A.file f).1.length : Int) - ((A.file f).2 : Int) + 1) := by
                    rw [Int.natCast_emod]
                    congr 1
                    omega
                  refine ⟨rfl, congrArg _ ?_⟩
                  rw [hcl, Int.natCast_add, hnat]
                  exact IntWalk.wrap64_in _ (by omega)
              case rest =>
                obtain ⟨rfl, rfl⟩ := hcut
                clear hb114
                have hn1' := cutLen_ge cut i (A.file f).2 (A.file f).1.length
                have hn2' := cutLen_le cut i (A.file f).2 (A.file f).1.length hle
                generalize hnn : cutLen cut i (A.file f).2 (A.file f).1.length = n at *
                have HNE := Aside0.mk hnn
                clear hnn
                go_upto_region 24 with fail
                have hn0 : (0 : Int) ≤ (n : Int) := Int.natCast_nonneg _
                have hcc : (A.file f).1.length ≤ cc := by
                  obtain ⟨_, _, e, h1, _⟩ := HBY.out.len
                  cases e
                  exact h1
                have hncc : (n : Int) ≤ (cc : Int) := by omega
                have o1 : wc.cell? ⟨w.heap.size + 1, 1, none⟩ = some (.map (some w.heap.size)) := blk_cell HOB.out 1
                have hil : i < maxLen := by unfold maxLen; omega
                have HIL := Aside0.mk hil
                have HNN := Aside0.mk (And.intro hn1' hn2')
                have HTK : Aside0 (BytesAt wc.drew S (.slice a n cc) ((A.file f).1.take n)) := ⟨(HBY.out.take n hn2').keep (fun _ _ _ => rfl) (fun _ h => h)⟩
                have HTL : Aside0 (((A.file f).1.take n).length = n ∧ n ≤ 1152921504606) := ⟨by simp [hn2'], by omega⟩
                clear hil
                go_region_held3 (fun W => W.cell? ⟨w.heap.size + 1, 1, none⟩ = some (.map (some w.heap.size)) ∧ W.cell? ⟨f, 0, none⟩ = some (.slice a (A.file f).1.length cc)) (first | exact ⟨o1, f0⟩ | exact ⟨s5, t5⟩ | exact ⟨s6, t6⟩ | exact ⟨s7, t7⟩)
                  (first
                    | (go_at_call 26
                       refine (clone_any _ S _ _ HTK.out (by have := HTL.out; omega)).mono ?_
                       rintro e w5 ⟨v', rfl, hown5, hb5⟩
                       obtain ⟨A5, c5, hv'⟩ := own_slice hown5
                       rw [HTL.out.1] at hv'
                       subst hv'
                       have hb : Below wc.heap.size wc w5 := (Below.refl wc.heap.size wc).drew.trans hb5
                       have hmlt := HM.out.lt
                       have hflt : f < wc.heap.size := blk_lt HFB.out
                       have holt : w.heap.size + 1 < wc.heap.size := blk_lt HOB.out
                       have hsz := hb.size
                       have s5 : w5.cell? ⟨w.heap.size + 1, 1, none⟩ = some (.map (some w.heap.size)) := (hb.cell holt).trans o1
                       have t5 : w5.cell? ⟨f, 0, none⟩ = some (.slice a (A.file f).1.length cc) := (hb.cell hflt).trans f0
                       have hb6 : Below wc.heap.size wc (w5.alloc (.cells #[.slice A5 n c5, .int .i64 (n : Int)] 60)) := hb.alloc hsz _
                       have s6 : (w5.alloc (.cells #[.slice A5 n c5, .int .i64 (n : Int)] 60)).cell? ⟨w.heap.size + 1, 1, none⟩ = some (.map (some w.heap.size)) := (hb6.cell holt).trans o1
                       have t6 : (w5.alloc (.cells #[.slice A5 n c5, .int .i64 (n : Int)] 60)).cell? ⟨f, 0, none⟩ = some (.slice a (A.file f).1.length cc) := (hb6.cell hflt).trans f0
                       have hm6 : MapAt (w5.alloc (.cells #[.slice A5 n c5, .int .i64 (n : Int)] 60)) w.heap.size i m := HM.out.keep (hb6.block _ hmlt)
                       obtain ⟨w7, hrun, hm7, ht7⟩ := hm6.store HIL.out ⟨k.toArray⟩ (by simpa [ByteArray.size] using HKL.out) w5.heap.size
                       rw [ptr_some] at hrun
                       have e7 : ∀ b, b ≠ w.heap.size → b < w5.heap.size + 1 → w7.heap[b]? = (w5.alloc (.cells #[.slice A5 n c5, .int .i64 (n : Int)] 60)).heap[b]? := fun b hb hl => mapTurned_other ht7 b hb (by simpa using hl)
                       have s7 : w7.cell? ⟨w.heap.size + 1, 1, none⟩ = some (.map (some w.heap.size)) := (World.cell?_of_block (a := ⟨w.heap.size + 1, 1, none⟩) (e7 _ (by simp) (by show w.heap.size + 1 < _; omega))).trans s6
                       have t7 : w7.cell? ⟨f, 0, none⟩ = some (.slice a (A.file f).1.length cc) := (World.cell?_of_block (a := ⟨f, 0, none⟩) (e7 _ (by have := HM.out; exact FileAt.ne_map ⟨trivial, _, HFB.out, (HBY.out.mono (fun _ _ => trivial) : BytesAt wc (fun _ => True) _ _), hle, hfL⟩ this) (by show f < _; omega))).trans t6
                       have HB5 := Aside0.mk hb
                       have HO5 := Aside0.mk hown5
                       have HM7 := Aside0.mk hm7
                       have HT7 := Aside0.mk ht7
                       have HE7 := Aside0.mk e7
                       clear hb hown5 hm7 ht7 e7 hb5 hmlt hflt holt hsz hb6 hm6))
                clear s5 t5 s6 t6 s7 t7 hrun o1 f0 f1 hl1 hl2 c1 c2 hcell
                go_wp2
                go_roundg q
                case measure => omega
                case rel =>
                  have hb := HB5.out
                  have hsz := hb.size
                  have hsw := HKP.out.size
                  have hM4 := HN4.out
                  have hmlt := HM.out.lt
                  have hnew : w7.heap[w5.heap.size]? = some (.cells #[.slice A5 n c5, .int .i64 (n : Int)] 60 (0, 0)) := (HE7.out _ (by omega) (by omega)).trans (heap_alloc_new w5 _)
                  have hold : ∀ b, b ≠ w.heap.size → b < w5.heap.size → w7.heap[b]? = w5.heap[b]? := fun b hn hl => (HE7.out b hn (by omega)).trans (Below.heap_alloc _ _ _ hl)
                  refine ⟨i + 1, by go_num, by have := HIK.out; omega, upd m k (some w5.heap.size), fun x => if x = w5.heap.size then cutTo (A.file f) n else F x, HM7.out,
                    ((HKP.out.trans (Keeps.of_new (S := fun _ => False) hb) (fun i hi => hi.elim)).alloc _).turned HT7.out (.inl rfl), fun k' g' hg' => ?_, fun j hj f' h1 h2 => ?_⟩
                  · unfold upd at hg'
                    by_cases hkk' : k' = k
                    · subst hkk'
                      rw [if_pos rfl] at hg'
                      cases hg'
                      simp only [if_true]
                      refine ⟨by omega, ⟨by show w4.heap.size ≤ w5.heap.size; omega, _, hnew, ?_, ?_, ?_⟩, f, i, HO.out, HGT.out, by rw [HNE.out]⟩
                      · exact (BytesAt.of_own (S := fun b => wc.heap.size ≤ b) HO5.out (fun b hb' => own_base HO5.out b hb')).keep (fun b hb' hl => hold b (by omega) hl) (fun b hb' => by omega)
                      · show n ≤ ((A.file f).1.take n).length
                        rw [HTL.out.1]
                        exact Nat.le_refl _
                      · show ((A.file f).1.take n).length ≤ L
                        rw [HTL.out.1]
                        omega
                    · rw [if_neg hkk'] at hg'
                      obtain ⟨q1, q2, q3⟩ := HF.out k' g' hg'
                      have hlt' : g' < wc.heap.size := by obtain ⟨_, v, h2, _⟩ := q2; exact blk_lt h2
                      simp only [show g' ≠ w5.heap.size by omega, if_false]
                      exact ⟨q1, q2.keep (fun b hb' hl => (hold b (by omega) (by omega)).trans (hb.block b hl)) (fun _ h => h), q3⟩
                  · unfold upd
                    by_cases hji : ts.getD j [] = k
                    · rw [if_pos hji]; rfl
                    · rw [if_neg hji]
                      have hji' : j ≠ i := fun e => hji (e ▸ HKK.out)
                      exact HST.out j (by omega) f' h1 h2
    · intro x o kl yd yp w3 cnt2 hkey hlk hv hat hrg2 hlt hg2 hs2 hen
      obtain ⟨x', ex, rfl, hxl⟩ := Maps.keyOf_str Try.underlying9 hkey
      obtain rfl : x = x' := encStr_inj ex
      obtain ⟨f, rfl, hf⟩ := MapAt.came HH.out HA.out hv hat
      have hstep := sumLeft_step (fun _ => 1) (isKey x) hlk es HP.out (by rw [HH.out, hf]; rfl) hat
      have hb3 : Below w1.heap.size w1 w3 := HB.out.grown hg2 HB.out.size (fun j hj => by cases hj; exact HB2.out.size)
      have hin3 := HI1.out.beside hb3
      have c1 : w3.cell? ⟨d, 1, none⟩ = some (.map (some nb)) := hin3.cells.1 1
      have hl := hin3.names.lookOk ⟨x.toArray⟩ (by simpa [ByteArray.size] using hxl)
      have HR3 := Aside0.mk (HR.out.kept hg2 (.inr (Ne.symm (row_ne_iter HR.out HRG.out))))
      have HB3 := Aside0.mk hb3
      have HL3 := Aside0.mk hb3.size
      have HRG3 := Aside0.mk hrg2
      have HNE := Aside0.mk (row_ne_iter HR.out HRG.out)
      have HLT := Aside0.mk hlt
      have HST := Aside0.mk hstep
      have HXL := Aside0.mk hxl
      have HLK := Aside0.mk hlk
      have HFS := Aside0.mk hf
      have hbound : (ks'.length + 1) * 16 ≤ 140737488355328 := by
        have := HLEN.out
        omega
      have HBD := Aside0.mk hbound
      clear hb3 hin3 hrg2 hlt hstep hkey hlk hv hat hg2 hs2 ex hxl hbound
      rw [ptr_some] at hen
      simp only [ptr_some]
      change Sem.run Try.prog (Instr.lookup 54 (.map (some nb)) (.string ⟨x.toArray⟩) true) w3 = .ok (.tuple #[ptr (A.names x), .bool (A.names x).isSome]) w3 at hl
      cases hq : A.names x with
      | some g =>
        rw [hq] at hl
        simp only [ptr_some, Option.isSome_some] at hl
        clear hq
        go_wp2
        go_roundw
        case rel =>
          refine ⟨_, cnt2, ks', HRG3.out, ⟨HND.out.1, fun k hk => (HND.out.2 k hk).imp id fun h => ⟨h.1, by simp [h.2]⟩⟩, ?_, HCOV.out, HSH.out, HR3.out, HB3.out⟩
          have h1 := HST.out
          have h2 := HLEN.out
          omega
        case measure => rw [HRG3.out.left_eq, HRG.out.left_eq]; exact HLT.out
      | none =>
        rw [hq] at hl
        simp only [ptr_none, Option.isSome_none] at hl
        have HQ := Aside0.mk hq
        clear hq
        go_wp2_with (first
          | (at_builtin; refine print_append_of (w0 := w1) encStr w1.heap.size rfl (.tmp 53) (.tmp 55) 47 9 (.string ⟨#[]⟩) 16 rfl Try.underlying47 info9 rfl (by decide) _ ks' x rfl rfl rfl HR3.out HB3.out HL3.out HBD.out ?_; intro v1 w4 hown4 hb4 hg4 hat4; have HO4 := Aside0.mk hown4; have HB4 := Aside0.mk hb4; have HG4 := Aside0.mk hg4; have HAT := Aside0.mk hat4; clear hown4 hb4 hg4 hat4)
          | go_in)
        have hrg4 := HRG3.out.kept HG4.out (fun e => by have := own_base HR3.out _ e.symm; have := HOWN.out.lt; omega) HNE.out
        have HRG4 := Aside0.mk hrg4
        clear hrg4
        go_roundw
        case rel =>
          refine ⟨_, cnt2, ks' ++ [x], HRG4.out, ⟨?_, ?_⟩, ?_, fun k hk => List.mem_append_left _ (HCOV.out k hk), ?_, HO4.out, HB4.out⟩
          · refine List.nodup_append.2 ⟨HND.out.1, by simp, fun a ha b hb hab => ?_⟩
            rw [List.mem_singleton.1 hb] at hab
            subst hab
            rcases HND.out.2 a ha with h | h
            · rw [HQ.out] at h; cases h
            · rw [HLK.out] at h; cases h.2
          · intro k hk
            rcases List.mem_append.1 hk with hk | hk
            · exact (HND.out.2 k hk).imp id fun h => ⟨h.1, by simp [h.2]⟩
            · rw [List.mem_singleton.1 hk]
              exact .inr ⟨by rw [HFS.out]; rfl, by simp [WideAt.sameKey_self (isKey x)]⟩
          · have h1 := HST.out
            have h2 := HLEN.out
            simp only [List.length_append, List.length_singleton]
            omega
          · intro k hk
            rcases List.mem_append.1 hk with hk | hk
            · exact HSH.out k hk
            · rw [List.mem_singleton.1 hk]; exact HXL.out
        case measure => rw [HRG4.out.left_eq, HRG.out.left_eq]; exact HLT.out

end Go.Proofs.Ytolpgajodhondaa
