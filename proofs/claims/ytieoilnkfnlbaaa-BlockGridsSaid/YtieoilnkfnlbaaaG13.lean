/- The making of blocks, at the example: the walk. -/
import Derived.Test.YtieoilnkfnlbaaaG12
import Derived.Deep.QuietTactic
import Derived.Deep.DeepCutAuto
import Derived.StillTailTactics
namespace Go.Proofs.Ytieoilnkfnlbaaa
open Go.RowKit Go.Maps Go.Sort Go.WideMaps Go.Proofs.YtieoilnkfnlbaaaW.PrintWords Go.Proofs.Ytieoilnkfnlbaaa.PBlockGrids

/-- Three samples, in block g. -/
def ThreeAt (w : World) (g : Nat) : Prop := ∀ i, i < 3 → ∀ j v, (sampleCells (Tof i))[j]? = some v → w.cell? ⟨g, i * 9 + j, none⟩ = some v

theorem ThreeAt.below {w w' : World} {g : Nat} (h : ThreeAt w g) (hb : Below w.heap.size w w') : ThreeAt w' g := fun i hi j v hj => pw_cell_below hb (h i hi j v hj)

theorem low_wrap (i : Nat) : wrap64 (lowOf i + 64) = lowOf i + 64 := by
  unfold lowOf
  split <;> kernel_rfl
theorem low_wrap' (i : Nat) : IntKind.i64.wrap (lowOf i + 64) = lowOf i + 64 := by
  unfold lowOf
  split <;> kernel_rfl

/-- The first row of a new block. -/
theorem first_row {U U1 : World} {b r c : Nat} {lw : Int} (hb : U1.heap[b]? = some (.cells #[.int .i64 lw, .int .i64 (lw + 64), .int .i64 0, .slice none 0 0] 42 (0, 0))) (hown : U1.ownsRow U.heap.size 36 2 (.slice (some ⟨r, 0, none⟩) 1 c) 1 ([] ++ [.string keyB, .slice none 0 0])) (hbl : Below U.heap.size U U1) (hlt : b < U.heap.size) :
    ∃ (r' c' : Nat) (cur : Array Value), (U1.setCell ⟨b, 3, none⟩ (.slice (some ⟨r, 0, none⟩) 1 c)).heap[b]? = some (.cells #[.int .i64 lw, .int .i64 (lw + 64), .int .i64 0, .slice (some ⟨r', 0, none⟩) 1 c'] 42 (0, 0)) ∧ (U1.setCell ⟨b, 3, none⟩ (.slice (some ⟨r, 0, none⟩) 1 c)).heap[r']? = some (.cells cur 36 (0, 0)) ∧ cur[0]? = some (.string keyB) ∧ cur[1]? = some (.slice none 0 0) ∧ U.heap.size ≤ r' ∧ Keeps (fun x => x = b) U (U1.setCell ⟨b, 3, none⟩ (.slice (some ⟨r, 0, none⟩) 1 c)) := by
  rcases hown.2 with ⟨e, _⟩ | ⟨g, cap, cur, e, hbase, hg, _⟩
  · cases e
  · have hgr : g = r := by injection e with e1; injection e1 with e1; injection e1 with e1; exact e1.symm
    subst hgr
    have hne : g ≠ b := by omega
    have k0 := hown.cells (g := g) rfl 0 (.string keyB) rfl
    have k1 := hown.cells (g := g) rfl 1 (.slice none 0 0) rfl
    rw [add_plain, blk_cell hg] at k0 k1
    refine ⟨g, c, cur, ?_, (Below.heap_setCell _ _ _ _ hne).trans hg, k0, k1, hbase, Keeps.set (S := fun x => x = b) (Keeps.of_below hbl) ⟨b, 3, none⟩ rfl _⟩
    exact blk_set hb 3 _

/-- What is made. -/
def MakePost (w : World) (e : Ending) (w' : World) : Prop :=
  ∃ g c r0 c0 r1 c1 g0 cc, e = .returned (.slice (some ⟨g, 0, none⟩) 2 c) ∧ Begins w' g (twoBlocks 0 (.slice (some ⟨r0, 0, none⟩) 1 c0) 64 (.slice (some ⟨r1, 0, none⟩) 1 c1)) ∧
    w'.cell? ⟨r0, 0, none⟩ = some (.string keyB) ∧ w'.cell? ⟨r0, 1, none⟩ = some (.slice (some ⟨g0, 0, none⟩) 2 cc) ∧ TwoAt w' g0 ∧ Below w.heap.size w w'

set_option maxHeartbeats 8000000 in
set_option maxRecDepth 100000 in
theorem make_3 (w : World) (rr gs c1 c2 : Nat) (h0 : w.cell? ⟨rr, 0, none⟩ = some (.string keyB)) (h1 : w.cell? ⟨rr, 1, none⟩ = some (.slice (some ⟨gs, 0, none⟩) 3 c2)) (h3 : ThreeAt w gs) :
    Calls Try.prog 11 #[.int .i64 0, .slice (some ⟨rr, 0, none⟩) 1 c1] w (MakePost w) := by
  have H3 := Aside0.mk h3
  clear h3
  have hmm := @run_makeMap Try.prog
  go_enter Try.func11, Try.ntmps11
  go_wp2_with fail
  clear hmm
  have hW : ∃ W, W = w.alloc (.map #[] 0) := ⟨_, rfl⟩
  obtain ⟨W, hW⟩ := hW
  rw [← hW]
  have hbW : Below w.heap.size w W := hW ▸ (Below.refl _ _).alloc (Nat.le_refl _) _
  have hmW : MapAt W w.heap.size 0 (fun _ => none) := hW ▸ MapAt.made w
  have HBW := Aside0.mk hbW
  have HMW := Aside0.mk hmW
  have k0 := pw_cell_below hbW h0
  have k1 := pw_cell_below hbW h1
  clear hbW hmW hW h0 h1
  refine wp_loop_rounds 2 ?_
  rw [rounds_succ]
  go_wp2_with fail
  have hX : ∃ X, X = W.alloc (.cells #[.string keyB, .slice (some ⟨gs, 0, none⟩) 3 c2] 36) := ⟨_, rfl⟩
  obtain ⟨X, hX⟩ := hX
  rw [← hX]
  have hbX : Below W.heap.size W X := hX ▸ (Below.refl _ _).alloc (Nat.le_refl _) _
  have hnX : X.heap[W.heap.size]? = some (.cells #[.string keyB, .slice (some ⟨gs, 0, none⟩) 3 c2] 36 (0, 0)) := hX ▸ heap_alloc_new W _
  have hmade : Made X X w.heap.size 0 (tsAt 0) (fun _ => none) (fun _ _ => False) :=
    ⟨HMW.out.keep (hbX.block _ HMW.out.lt), fun k => ⟨fun _ => rfl, fun _ => rfl⟩, (fun k b hk => by cases hk), (fun k j x hx => hx.elim), (fun k x hx => hx.elim), Keeps.refl _ _, Nat.lt_of_lt_of_le HMW.out.lt hbX.size⟩
  have HX := Aside0.mk (HBW.out.trans (hbX.mono HBW.out.size))
  have HNX := Aside0.mk hnX
  have HM0 := Aside0.mk hmade
  have HRB := Aside0.mk HMW.out.lt
  clear hX hbX hnX hmade k0 k1 HMW
  go_loopg [27] 3 (fun kq v27 wr => ∃ i n m S, v27 = .int .i64 (i : Nat) ∧ i + kq = 3 ∧ n ≤ i ∧ Made X wr w.heap.size n (tsAt i) m S)
  case atStart => exact ⟨0, 0, _, _, rfl, by omega, Nat.le_refl _, HM0.out⟩
  case round =>
    obtain ⟨i, n, m, S, rfl, hik, hni, hmd⟩ := hrel
    have HIK := Aside0.mk hik
    have HMD := Aside0.mk hmd
    have hnW : wr.heap[W.heap.size]? = some (.cells #[.string keyB, .slice (some ⟨gs, 0, none⟩) 3 c2] 36 (0, 0)) := (hmd.keeps.block _ (blk_lt HNX.out) (by have := HRB.out; omega)).trans HNX.out
    have HNW := Aside0.mk hnW
    clear hnW hmd
    cases gk with
    | zero =>
      obtain ⟨wq, hq⟩ : ∃ wq, wq = wr := ⟨_, rfl⟩
      subst hq
      have hlt : decide ((i : Int) < 3) = false := decide_eq_false (by omega)
      obtain rfl : i = 3 := by omega
      have hm0 : ∃ b0, m 0 = some b0 := by
        cases e : m 0 with
        | some b0 => exact ⟨b0, rfl⟩
        | none => exact absurd ((HMD.out.nones 0).1 e) (by decide)
      have hm1 : ∃ b1, m 64 = some b1 := by
        cases e : m 64 with
        | some b1 => exact ⟨b1, rfl⟩
        | none => exact absurd ((HMD.out.nones 64).1 e) (by decide)
      have hmn : ∀ k, (m k).isSome = true → k = 0 ∨ k = 64 := fun k hk => by
        by_cases e0 : k = 0
        · exact .inl e0
        · by_cases e1 : k = 64
          · exact .inr e1
          · have : m k = none := (HMD.out.nones k).2 (by simp [tsAt, lowOf, e0, e1])
            rw [this] at hk
            cases hk
      obtain ⟨b0, hm0⟩ := hm0
      obtain ⟨b1, hm1⟩ := hm1
      obtain ⟨r0, q0, sv0, cur0, -, -, hB0, hR0, hk0, hs0, ho0, -⟩ := HMD.out.blk 0 b0 hm0
      obtain ⟨r1, q1, sv1, cur1, -, -, hB1, hR1, hk1, hs1, ho1, -⟩ := HMD.out.blk 64 b1 hm1
      obtain ⟨g0, cc, rfl, _, _⟩ := ho0.form (by decide)
      have hrv : ∃ rv : Int → Value, rv 0 = .slice (some ⟨r0, 0, none⟩) 1 q0 ∧ rv 64 = .slice (some ⟨r1, 0, none⟩) 1 q1 := ⟨fun k => if k = 0 then .slice (some ⟨r0, 0, none⟩) 1 q0 else .slice (some ⟨r1, 0, none⟩) 1 q1, rfl, rfl⟩
      obtain ⟨rv, hrv0, hrv1⟩ := hrv
      have hblk : ∀ k f, m k = some f → ∃ A nn c, rv k = .slice A nn c ∧ wq.heap[f]? = some (.cells #[.int .i64 k, .int .i64 (k + 64), .int .i64 0, rv k] 42 (0, 0)) := fun k f hk => by
        rcases hmn k (by rw [hk]; rfl) with rfl | rfl
        · rw [hm0] at hk
          cases hk
          exact ⟨_, _, _, hrv0, by rw [hrv0]; exact hB0⟩
        · rw [hm1] at hk
          cases hk
          exact ⟨_, _, _, hrv1, by rw [hrv1]; exact hB1⟩
      have HBLK := Aside0.mk hblk
      have HMN := Aside0.mk hmn
      have HM0' := Aside0.mk hm0
      have HM1' := Aside0.mk hm1
      have HRV := Aside0.mk (And.intro hrv0 hrv1)
      have HR0 := Aside0.mk hR0
      have HK0 := Aside0.mk hk0
      have HS0 := Aside0.mk hs0
      have HO0 := Aside0.mk ho0
      obtain ⟨D, hown, hh, ha⟩ := HMD.out.map
      obtain ⟨es, hes, hap, hkey⟩ := hown.entries law2
      subst hes
      have HOWN := Aside0.mk hown
      have HH := Aside0.mk hh
      have HA := Aside0.mk ha
      have hbx : Below w.heap.size w wq := HX.out.trans (HMD.out.keeps.below HX.out.size (fun k hk => Nat.le_of_eq hk.symm))
      have HBX := Aside0.mk hbx
      clear hblk hmn hm0 hm1 hrv0 hrv1 hB0 hR0 hk0 hs0 ho0 hB1 hR1 hk1 hs1 ho1 hown hh ha hap hkey hbx hik
      go_wp2_with fail
      rw [rounds_succ]
      go_wp2_with (first
        | (at_range; refine wpList_range_own _ rfl _ 62 rfl 2 63 law2 Try.underlying62 _ w.heap.size n _ rfl HOWN.out ?_; intro w0 hrg0 hg0 hs0; have HRG0 := Aside0.mk hrg0; have HG0 := Aside0.mk hg0; clear hrg0 hg0 hs0)
        | go_in)
      go_frame
      go_loopw [14] (fun v wx => OutRel wq w.heap.size n wq.heap.size es m rv v wx) (fun _ wx => wx.rangeLeft w.heap.size wq.heap.size)
      case atStart =>
        refine ⟨_, _, [], HRG0.out, List.nodup_nil, fun k => ⟨(fun h => by cases h), fun h => ?_⟩, own_nil _ _ _ _, (Below.refl _ _).grown HG0.out (Nat.le_refl _) (fun j hj => by cases hj)⟩
        have h1 := h.2
        rw [HH.out k, h.1] at h1
        cases h1
      case round =>
        obtain ⟨left, cnt, ks, hrg, hnod, hmem, hrow, hb⟩ := hrel
        have HRG := Aside0.mk hrg
        have HND := Aside0.mk hnod
        have HMEM := Aside0.mk hmem
        have HROW := Aside0.mk hrow
        have HB := Aside0.mk hb
        have HTWO := Aside0.mk (keys_two hnod (fun k hk => HMN.out k ((hmem k).1 hk).1))
        clear hrg hnod hmem hrow hb HRG0 HG0
        go_wp2_with (first
          | (at_next; refine wpList_next_ranges _ rfl _ rfl 2 law2 ptrElem (Value.int .i64) ptr inv2 inv63 w.heap.size wq.heap.size n _ _ _ rfl HRG.out ?_ ?_)
          | go_in)
        · intro hc0 hl0
          have h0 : (0 : Int) ∈ ks := (HMEM.out 0).2 ⟨by rw [HM0'.out]; rfl, hl0 _⟩
          have h64 : (64 : Int) ∈ ks := (HMEM.out 64).2 ⟨by rw [HM1'.out]; rfl, hl0 _⟩
          have hks : ks = [0, 64] ∨ ks = [64, 0] := by
            rcases HTWO.out with rfl | rfl | rfl | h | h
            · cases h0
            · simp at h64
            · simp at h0
            · exact .inl h
            · exact .inr h
          clear hc0 hl0 h0 h64
          have hsort : ∃ g c, u14 = .slice (some ⟨g, 0, none⟩) 2 c ∧ wq.heap.size ≤ g ∧ g < wr.heap.size ∧ Calls Try.prog 19 #[u14, .func (.func 20) #[] #[]] wr (SortPost wr g 0 (rv 0) 64 (rv 64)) := by
            have hrow := HROW.out
            rcases hks with rfl | rfl
            · obtain ⟨g, c, rfl, _, _⟩ := hrow.form (by decide)
              obtain ⟨hbg, hge⟩ := begins_of_own hrow
              exact ⟨g, c, rfl, hge, hbg.lt, sortFunc_2 wr g c 0 64 _ _ (insert_up wr g c _ _ hbg)⟩
            · obtain ⟨g, c, rfl, _, _⟩ := hrow.form (by decide)
              obtain ⟨hbg, hge⟩ := begins_of_own hrow
              exact ⟨g, c, rfl, hge, hbg.lt, sortFunc_2 wr g c 0 64 _ _ (insert_down wr g c _ _ _ _ _ _ _ _ HRV.out.2 HRV.out.1 hbg)⟩
          obtain ⟨g, c, rfl, hge, hgl, hcall⟩ := hsort
          have HCALL := Aside0.mk hcall
          have HGE := Aside0.mk (And.intro hge hgl)
          clear hks hge hgl hcall
          go_wp2_with (first
            | (go_at_call 19; refine HCALL.out.mono ?_; rintro e w5 ⟨rfl, hbg, hon⟩; have HBG := Aside0.mk hbg; have HON := Aside0.mk hon; clear hbg hon)
            | go_in)
          go_ret
          have hb1 := HB.out.size
          have hk : ∀ k, k < wq.heap.size → w5.heap[k]? = wq.heap[k]? := fun k hk => (HON.out.block k (by omega) (by have := HGE.out.1; omega)).trans (HB.out.block k hk)
          have hr0 := (hk r0 (blk_lt HR0.out)).trans HR0.out
          refine ⟨g, c, r0, q0, r1, q1, g0, cc, rfl, ?_, (blk_cell hr0 0).trans HK0.out, (blk_cell hr0 1).trans HS0.out, ?_, ?_⟩
          · have := HBG.out
            rwa [HRV.out.1, HRV.out.2] at this
          · intro j v hj
            have hg0 := own_lt HO0.out g0 rfl
            rw [World.cell?_of_block (a := ⟨g0, j, none⟩) (hk g0 hg0)]
            have := HO0.out.cells (g := g0) rfl j v (by rw [show tsAt 3 0 = [0, 63] from rfl]; simpa using hj)
            rwa [add_plain] at this
          · exact HBX.out.trans ((HB.out.trans (HON.out.below HB.out.size HGE.out.1)).mono HBX.out.size)
        · intro x o kl yd yp w3 cnt2 hkey hlk hv hat hrg2 hlt2 hg2 hs2 hen
          obtain ⟨x', ex, rfl, hxw⟩ := Maps.keyOf_int_inv Try.underlying2 hkey
          obtain rfl : x = x' := by injection ex
          obtain ⟨f, rfl, hf⟩ := came HH.out HA.out hv hat
          have hb3 : Below wq.heap.size wq w3 := HB.out.grown hg2 HB.out.size (fun j hj => by cases hj; exact Nat.le_refl _)
          obtain ⟨A, nn, c, hrx, hbf⟩ := HBLK.out x f hf
          have hbf3 := (hb3.block _ (blk_lt hbf)).trans hbf
          have hnx : x ∉ ks := fun h => by
            have := ((HMEM.out x).1 h).2
            rw [hlk] at this
            cases this
          have hlen : (ks.length + 1) * 48 ≤ 140737488355328 := by
            rcases HTWO.out with rfl | rfl | rfl | rfl | rfl <;> decide
          have f0 : w3.cell? ⟨f, 0, none⟩ = some (.int .i64 x) := blk_cell hbf3 0
          have f1 : w3.cell? ⟨f, 1, none⟩ = some (.int .i64 (x + 64)) := blk_cell hbf3 1
          have f2 : w3.cell? ⟨f, 2, none⟩ = some (.int .i64 0) := blk_cell hbf3 2
          have f3 : w3.cell? ⟨f, 3, none⟩ = some (rv x) := blk_cell hbf3 3
          have hone : ∀ u ∈ blkCells rv x, u.oneCell' = true := by
            intro u hu
            simp only [blkCells, List.mem_cons, List.not_mem_nil, or_false] at hu
            rcases hu with rfl | rfl | rfl | rfl
            · rfl
            · rfl
            · rfl
            · rw [hrx]; rfl
          have HR3 := Aside0.mk (HROW.out.kept hg2 (.inr (Ne.symm (row_ne_iter HROW.out HRG.out))))
          have HB3 := Aside0.mk hb3
          have HRG3 := Aside0.mk hrg2
          have HLT := Aside0.mk hlt2
          have HNX := Aside0.mk hnx
          have HLEN := Aside0.mk hlen
          have HONE := Aside0.mk hone
          have HF := Aside0.mk hf
          have HNE := Aside0.mk (row_ne_iter HROW.out HRG.out)
          clear hb3 hrg2 hlt2 hkey hlk hv hat hg2 hs2 ex hbf hbf3 hnx hlen hone hf hxw hrx
          rw [ptr_some] at hen
          simp only [ptr_some]
          go_wp2_with (first
            | (at_builtin; refine print_append_cells (w0 := wq) wq.heap.size rfl (.tmp 120) (.tmp 124) 37 42 (.agg #[.int .i64 0, .int .i64 0, .int .i64 0, .slice none 0 0]) 4 48 rfl Try.underlying37 info42 rfl (by decide) (by decide) _ ks.length _ (blkCells rv x) rfl rfl rfl HONE.out HR3.out HB3.out HB3.out.size HLEN.out ?_; intro v1 w4 hown4 hb4 hg4 hat4; have HO4 := Aside0.mk hown4; have HB4 := Aside0.mk hb4; have HG4 := Aside0.mk hg4; clear hown4 hb4 hg4 hat4)
            | go_in)
          have hrg4 := HRG3.out.kept HG4.out (fun e => by have := own_base HROW.out _ e.symm; have := HOWN.out.lt; omega) HNE.out
          have HRG4 := Aside0.mk hrg4
          clear hrg4
          go_roundw
          case rel =>
            refine ⟨_, cnt2, ks ++ [x], HRG4.out, ?_, fun k => ?_, ?_, HB4.out⟩
            · refine List.nodup_append.2 ⟨HND.out, by simp, fun a ha b hb hab => ?_⟩
              rw [List.mem_singleton.1 hb] at hab
              subst hab
              exact HNX.out ha
            · rw [List.mem_append, List.mem_singleton, HMEM.out k, left_after]
              constructor
              · rintro (h | rfl)
                · exact ⟨h.1, .inl h.2⟩
                · exact ⟨by rw [HF.out]; rfl, .inr rfl⟩
              · rintro ⟨h1, h2 | h2⟩
                · exact .inl ⟨h1, h2⟩
                · exact .inr h2
            · rw [List.length_append, List.flatMap_append]
              simpa using HO4.out
          case measure => rw [HRG4.out.left_eq, HRG.out.left_eq]; exact HLT.out
    | succ qq =>
      have hlt : decide ((i : Int) < 3) = true := decide_eq_true (by omega)
      have hi3 : i < 3 := by omega
      have hbx : Below w.heap.size w wr := HX.out.trans (HMD.out.keeps.below HX.out.size (fun k hk => Nat.le_of_eq hk.symm))
      have HBX := Aside0.mk hbx
      have h3 := H3.out.below hbx i hi3
      have s0 : wr.cell? ⟨gs, i * 9, none⟩ = some (.int .i64 (Tof i)) := h3 0 _ rfl
      have s1 := h3 1 _ rfl
      have s2 := h3 2 _ rfl
      have s3 := h3 3 _ rfl
      have s4 := h3 4 _ rfl
      have s5 := h3 5 _ rfl
      have s6 := h3 6 _ rfl
      have s7 := h3 7 _ rfl
      have s8 := h3 8 _ rfl
      have HL := Aside0.mk (low_i i hi3)
      have HWF := Aside0.mk (low_wf i)
      have hw1 := low_wrap i
      have hw2 := low_wrap' i
      have HTS := Aside0.mk (show ∀ x, tsAt (i + 1) x = if x = lowOf i then tsAt i x ++ [Tof i] else tsAt i x from fun x => rfl)
      generalize Tof i = T at *
      generalize lowOf i = lw at *
      clear h3 hbx hik
      go_upto_region 8 with fail
      have hY : ∃ Y, Y = wr.alloc (.cells #[.int .i64 T, .int .i64 0, .int .i64 0, .int .i64 (-524288), .int .u64 0, .int .u64 0, .int .i64 0, .slice none 0 0, .slice none 0 0] 56) := ⟨_, rfl⟩
      obtain ⟨Y, hY⟩ := hY
      rw [← hY]
      have hbY : Below wr.heap.size wr Y := hY ▸ (Below.refl _ _).alloc (Nat.le_refl _) _
      have hnY : Y.heap[wr.heap.size]? = some (.cells #[.int .i64 T, .int .i64 0, .int .i64 0, .int .i64 (-524288), .int .u64 0, .int .u64 0, .int .i64 0, .slice none 0 0, .slice none 0 0] 56 (0, 0)) := hY ▸ heap_alloc_new wr _
      have t0 : Y.cell? ⟨wr.heap.size, 0, none⟩ = some (.int .i64 T) := blk_cell hnY 0
      have HBY := Aside0.mk hbY
      have HNY := Aside0.mk hnY
      clear hbY hnY hY s0 s1 s2 s3 s4 s5 s6 s7 s8
      go_wp2_with fail
      refine (HL.out Y).mono ?_
      rintro e Z ⟨rfl, hbZ⟩
      have HBZ := Aside0.mk (HBY.out.trans (hbZ.mono HBY.out.size))
      have HNZ := Aside0.mk ((hbZ.block _ (blk_lt HNY.out)).trans HNY.out)
      have HMZ := Aside0.mk (HMD.out.beside HBZ.out)
      have hlook := HMZ.out.map.look lw HWF.out
      clear hbZ t0
      cases hm : m lw with
      | none =>
        rw [hm, ptr_none] at hlook
        have HMN := Aside0.mk hm
        clear hm
        go_wp2_with fail
        refine (width_0 Z).mono ?_
        rintro e Z2 ⟨rfl, hb2⟩
        have HB2 := Aside0.mk (HBZ.out.trans (hb2.mono HBZ.out.size))
        have HM2 := Aside0.mk (HMZ.out.beside hb2)
        have HN2 := Aside0.mk ((hb2.block _ (blk_lt HNZ.out)).trans HNZ.out)
        clear hb2 hlook
        go_upto_region 12 with fail
        have hV : ∃ V, V = Z2.alloc (.cells #[.int .i64 lw, .int .i64 (lw + 64), .int .i64 0, .slice none 0 0] 42) := ⟨_, rfl⟩
        obtain ⟨V, hV⟩ := hV
        rw [← hV]
        have hbV : Below Z2.heap.size Z2 V := hV ▸ (Below.refl _ _).alloc (Nat.le_refl _) _
        have hnV : V.heap[Z2.heap.size]? = some (.cells #[.int .i64 lw, .int .i64 (lw + 64), .int .i64 0, .slice none 0 0] 42 (0, 0)) := hV ▸ heap_alloc_new Z2 _
        obtain ⟨V', hrun, hmapV, htV⟩ := (HM2.out.beside hbV).map.store (by unfold maxLen; omega) lw HWF.out Z2.heap.size
        have HBV := Aside0.mk hbV
        have HMV := Aside0.mk hmapV
        have HTV := Aside0.mk htV
        have hneM : Z2.heap.size ≠ w.heap.size := by
          have h1 := HM2.out.map.lt
          omega
        have hnV2 : V'.heap[Z2.heap.size]? = some (.cells #[.int .i64 lw, .int .i64 (lw + 64), .int .i64 0, .slice none 0 0] 42 (0, 0)) := (htV.grown.block _ (blk_lt hnV) (fun e => hneM (by injection e))).trans hnV
        have b3 : V'.cell? ⟨Z2.heap.size, 3, none⟩ = some (.slice none 0 0) := blk_cell hnV2 3
        have HNV := Aside0.mk hnV2
        clear hbV hnV hV hmapV htV hneM hnV2
        go_upto_region 14 with fail
        obtain ⟨T1, f1, kb, kn, ⟨x1, hx⟩⟩ := family V'
        have KB1 := Aside0.mk kb
        have KX := Aside0.mk hx
        haveI : Nonempty T1 := ⟨x1⟩
        clear kb kn hx
        refine wp_region_family f1 (by kernel_rfl) (by kernel_rfl) ⟨x1, KX.out⟩ ?_
        repeat (first | go_big_quiet_step ((fail)) | quiet_step (fail))
        refine wpQuiet_nil ?_
        rintro w' ⟨y1, rfl⟩
        have hbU : Below V'.heap.size V' (f1 y1) := KB1.out y1
        generalize f1 y1 = U at hbU ⊢
        have HBU := Aside0.mk hbU
        clear KB1 KX b3 hrun hbU
        have hMX : w.heap.size < X.heap.size := HM0.out.old
        have HVU := Aside0.mk ((HMV.out.keep (HBU.out.block _ HMV.out.lt)))
        have hkU : Keeps (fun x => x = w.heap.size) wr U := (Keeps.turned (S := fun x => x = w.heap.size) (Keeps.of_below (HB2.out.trans (HBV.out.mono HB2.out.size))) HTV.out rfl).trans (Keeps.of_below HBU.out)
        have hnU := (HBU.out.block _ (blk_lt HNV.out)).trans HNV.out
        have b3 : U.cell? ⟨Z2.heap.size, 3, none⟩ = some (.slice none 0 0) := blk_cell hnU 3
        have z3 : U.frozen? ⟨Z2.heap.size, 3, none⟩ = false := blk_frozen hnU 3
        have hrowU : U.heap[W.heap.size]? = some (.cells #[.string keyB, .slice (some ⟨gs, 0, none⟩) 3 c2] 36 (0, 0)) := (hkU.block _ (blk_lt HNW.out) (by have := HRB.out; omega)).trans HNW.out
        have d0 : U.cell? ⟨W.heap.size, 0, none⟩ = some (.string keyB) := blk_cell hrowU 0
        have hal : Below U.heap.size U ((U.alloc (.cells #[.string keyB, .slice none 0 0] 36)).drew) := ((Below.refl _ _).alloc (Nat.le_refl _) _).drew
        have b3'' := pw_cell_below hal b3
        have d0'' := pw_cell_below hal d0
        have HNU := Aside0.mk hnU
        have HNU := Aside0.mk hnU
        have HKU := Aside0.mk hkU
        have HROWU := Aside0.mk hrowU
        clear hnU hkU hrowU hal
        have hbd : Below U.heap.size U U.drew := (Below.refl _ _).drew
        have hne : Z2.heap.size ≠ W.heap.size := by have := blk_lt HNX.out; have := HB2.out.size; have := HMD.out.keeps.size; omega
        go_upto_if 74 with fail
        go_cut [] (fun wx => ∃ (r c : Nat) (cur : Array Value), wx.heap[Z2.heap.size]? = some (.cells #[.int .i64 lw, .int .i64 (lw + 64), .int .i64 0, .slice (some ⟨r, 0, none⟩) 1 c] 42 (0, 0)) ∧ wx.heap[r]? = some (.cells cur 36 (0, 0)) ∧ cur[0]? = some (.string keyB) ∧ cur[1]? = some (.slice none 0 0) ∧ U.heap.size ≤ r ∧ Keeps (fun x => x = Z2.heap.size) U wx)
        case first =>
          go_upto_region 15 with fail
          refine wp_region_noPanic ?_
          refine wp_region_held_drew (S := fun W' => W'.cell? ⟨W.heap.size, 0, none⟩ = some (.string keyB)) (by kernel_rfl) d0 (fun hHeld => ?_)
          refine take_l (i := 0) (v := ?v0n1) rfl (by kernel_rfl) (by kernel_rfl) (by kernel_rfl) (fun _ _ _ h => h) (Or.inl ⟨by rfl, ?hy0n1⟩) (by assumption) ?rest0n1
          case hy0n1 => (intro w hSw; (try dsimp only at hSw); go_simp; try with_reducible rfl)
          (try simp only [Act.put, List.setIfInBounds_toArray, List.set_cons_zero, List.set_cons_succ])
          refine take_l (i := 1) (v := ?v1n2) rfl (by kernel_rfl) (by kernel_rfl) (by kernel_rfl) (fun _ _ _ h => h) (Or.inl ⟨by rfl, ?hy1n2⟩) (by assumption) ?rest1n2
          case hy1n2 => (intro w hSw; (try dsimp only at hSw); go_simp; try with_reducible rfl)
          (try simp only [Act.put, List.setIfInBounds_toArray, List.set_cons_zero, List.set_cons_succ])
          refine take_l (i := 2) (v := ?v2n3) rfl (by kernel_rfl) (by kernel_rfl) (by kernel_rfl) (fun _ _ _ h => h) (Or.inl ⟨by rfl, ?hy2n3⟩) (by assumption) ?rest2n3
          case hy2n3 => (intro w hSw; (try dsimp only at hSw); go_simp; try with_reducible rfl)
          (try simp only [Act.put, List.setIfInBounds_toArray, List.set_cons_zero, List.set_cons_succ])
          refine take_l (i := 3) (v := ?v3n4) rfl (by kernel_rfl) (by kernel_rfl) (by kernel_rfl) (fun _ _ _ h => h) (Or.inl ⟨by rfl, ?hy3n4⟩) (by assumption) ?rest3n4
          case hy3n4 => (intro w hSw; (try dsimp only at hSw); go_simp; try with_reducible rfl)
          (try simp only [Act.put, List.setIfInBounds_toArray, List.set_cons_zero, List.set_cons_succ])
          refine take_l (i := 5) (v := ?v5n5) rfl (by kernel_rfl) (by kernel_rfl) (by kernel_rfl) (fun _ _ _ h => h) (Or.inl ⟨by rfl, ?hy5n5⟩) (by assumption) ?rest5n5
          case hy5n5 => (intro w hSw; (try dsimp only at hSw); go_simp; try with_reducible rfl)
          (try simp only [Act.put, List.setIfInBounds_toArray, List.set_cons_zero, List.set_cons_succ])
          refine take_l (i := 6) (v := ?v6n6) rfl (by kernel_rfl) (by kernel_rfl) (by kernel_rfl) (fun _ _ _ h => h) (Or.inl ⟨by rfl, ?hy6n6⟩) (by assumption) ?rest6n6
          case hy6n6 => (intro w hSw; (try dsimp only at hSw); go_simp; try with_reducible rfl)
          (try simp only [Act.put, List.setIfInBounds_toArray, List.set_cons_zero, List.set_cons_succ])
          refine take_l (i := 7) (v := ?v7n7) rfl (by kernel_rfl) (by kernel_rfl) (by kernel_rfl) (fun _ _ _ h => h) (Or.inl ⟨by rfl, ?hy7n7⟩) (by assumption) ?rest7n7
          case hy7n7 => (intro w hSw; (try dsimp only at hSw); go_simp; try with_reducible rfl)
          (try simp only [Act.put, List.setIfInBounds_toArray, List.set_cons_zero, List.set_cons_succ])
          refine wpAnyH_ready (rs := [4, 8]) (by kernel_rfl) (by simp) ?_
          refine cons_l rfl (fun K hK => ?_) (cons_l rfl (fun K hK => ?_) AllReadyH.nil)
          · go_simp
            refine hK.out _ _ d0 (fun hHeld => ?_)
            clear hK K
            (try simp only [Act.put, List.setIfInBounds_toArray, List.set_cons_zero, List.set_cons_succ])
            refine wpAnyH_ready (rs := [8]) (by kernel_rfl) (by simp) ?_
            refine cons_l rfl (fun K hK => ?_) AllReadyH.nil
            go_simp
            refine hK.out _ _ d0'' (fun hHeld => ?_)
            clear hK K
            (try simp only [Act.put, List.setIfInBounds_toArray, List.set_cons_zero, List.set_cons_succ])
            refine wpAnyH_ready (rs := [9]) (by kernel_rfl) (by simp) ?_
            refine cons_l rfl (fun K hK => ?_) AllReadyH.nil
            refine step_append_cells (w0 := U) U.heap.size (by rfl) (.tmp 79) (.tmp 83) 32 36 (.agg #[.string ⟨#[]⟩, .slice none 0 0]) 2 40 rfl Try.underlying32 info36 rfl (by decide) (by decide) (.slice none 0 0) 0 [] [.string keyB, .slice none 0 0] rfl rfl rfl (by decide) (own_nil _ _ _ _) hbd (Nat.le_refl _) (by decide) ?_
            intro v1 U1 hown1 hbU1 hg1 hat1
            have hn1 := (hbU1.block _ (blk_lt HNU.out)).trans HNU.out
            have b3' : U1.cell? ⟨Z2.heap.size, 3, none⟩ = some (.slice none 0 0) := blk_cell hn1 3
            have z3' : U1.frozen? ⟨Z2.heap.size, 3, none⟩ = false := blk_frozen hn1 3
            have d0' : U1.cell? ⟨W.heap.size, 0, none⟩ = some (.string keyB) := pw_cell_below hbU1 d0
            obtain ⟨r1, c1', rfl, _, _⟩ := hown1.form (by decide)
            have d3' : (U1.setCell ⟨Z2.heap.size, 3, none⟩ (.slice (some ⟨r1, 0, none⟩) 1 c1')).cell? ⟨W.heap.size, 0, none⟩ = some (.string keyB) := (World.cell?_setCell_far _ _ _ _ hne).trans d0'
            have HOWN1 := Aside0.mk hown1
            have HBU1 := Aside0.mk hbU1
            have HN1 := Aside0.mk hn1
            clear hown1 hbU1 hg1 hat1 hn1
            refine hK.out _ _ d0' (fun hHeld => ?_)
            clear hK K
            (try simp only [Act.put, List.setIfInBounds_toArray, List.set_cons_zero, List.set_cons_succ])
            refine take_l (i := 10) (v := ?v10n8) rfl (by kernel_rfl) (by kernel_rfl) (by kernel_rfl) (fun _ _ _ h => h) (Or.inl ⟨by rfl, ?hy10n8⟩) (by assumption) ?rest10n8
            case hy10n8 => (intro w hSw; (try dsimp only at hSw); go_simp; try with_reducible rfl)
            (try simp only [Act.put, List.setIfInBounds_toArray, List.set_cons_zero, List.set_cons_succ])
            refine take_l (i := 11) (v := ?v11n9) rfl (by kernel_rfl) (by kernel_rfl) (by kernel_rfl) (fun _ _ _ h => h) (Or.inl ⟨by rfl, ?hy11n9⟩) (by assumption) ?rest11n9
            case hy11n9 => (intro w hSw; (try dsimp only at hSw); go_simp; try with_reducible rfl)
            (try simp only [Act.put, List.setIfInBounds_toArray, List.set_cons_zero, List.set_cons_succ])
            refine wpAnyH_ready (rs := [12]) (by kernel_rfl) (by simp) ?_
            refine cons_l rfl (fun K hK => ?_) AllReadyH.nil
            go_simp
            refine hK.out _ _ d3' (fun hHeld => ?_)
            clear hK K
            (try simp only [Act.put, List.setIfInBounds_toArray, List.set_cons_zero, List.set_cons_succ])
            refine wpAnyH_done (by kernel_rfl) ?_ _
            refine NoPanic.normal ?_
            go_wp2
            go_meet
            exact first_row HN1.out HOWN1.out HBU1.out (blk_lt HNU.out)
          · go_simp
            refine hK.out _ _ d0'' (fun hHeld => ?_)
            clear hK K
            (try simp only [Act.put, List.setIfInBounds_toArray, List.set_cons_zero, List.set_cons_succ])
            refine wpAnyH_ready (rs := [4]) (by kernel_rfl) (by simp) ?_
            refine cons_l rfl (fun K hK => ?_) AllReadyH.nil
            go_simp
            refine hK.out _ _ d0'' (fun hHeld => ?_)
            clear hK K
            (try simp only [Act.put, List.setIfInBounds_toArray, List.set_cons_zero, List.set_cons_succ])
            refine wpAnyH_ready (rs := [9]) (by kernel_rfl) (by simp) ?_
            refine cons_l rfl (fun K hK => ?_) AllReadyH.nil
            refine step_append_cells (w0 := U) U.heap.size (by rfl) (.tmp 79) (.tmp 83) 32 36 (.agg #[.string ⟨#[]⟩, .slice none 0 0]) 2 40 rfl Try.underlying32 info36 rfl (by decide) (by decide) (.slice none 0 0) 0 [] [.string keyB, .slice none 0 0] rfl rfl rfl (by decide) (own_nil _ _ _ _) hbd (Nat.le_refl _) (by decide) ?_
            intro v1 U1 hown1 hbU1 hg1 hat1
            have hn1 := (hbU1.block _ (blk_lt HNU.out)).trans HNU.out
            have b3' : U1.cell? ⟨Z2.heap.size, 3, none⟩ = some (.slice none 0 0) := blk_cell hn1 3
            have z3' : U1.frozen? ⟨Z2.heap.size, 3, none⟩ = false := blk_frozen hn1 3
            have d0' : U1.cell? ⟨W.heap.size, 0, none⟩ = some (.string keyB) := pw_cell_below hbU1 d0
            obtain ⟨r1, c1', rfl, _, _⟩ := hown1.form (by decide)
            have d3' : (U1.setCell ⟨Z2.heap.size, 3, none⟩ (.slice (some ⟨r1, 0, none⟩) 1 c1')).cell? ⟨W.heap.size, 0, none⟩ = some (.string keyB) := (World.cell?_setCell_far _ _ _ _ hne).trans d0'
            have HOWN1 := Aside0.mk hown1
            have HBU1 := Aside0.mk hbU1
            have HN1 := Aside0.mk hn1
            clear hown1 hbU1 hg1 hat1 hn1
            refine hK.out _ _ d0' (fun hHeld => ?_)
            clear hK K
            (try simp only [Act.put, List.setIfInBounds_toArray, List.set_cons_zero, List.set_cons_succ])
            refine take_l (i := 10) (v := ?v10n10) rfl (by kernel_rfl) (by kernel_rfl) (by kernel_rfl) (fun _ _ _ h => h) (Or.inl ⟨by rfl, ?hy10n10⟩) (by assumption) ?rest10n10
            case hy10n10 => (intro w hSw; (try dsimp only at hSw); go_simp; try with_reducible rfl)
            (try simp only [Act.put, List.setIfInBounds_toArray, List.set_cons_zero, List.set_cons_succ])
            refine take_l (i := 11) (v := ?v11n11) rfl (by kernel_rfl) (by kernel_rfl) (by kernel_rfl) (fun _ _ _ h => h) (Or.inl ⟨by rfl, ?hy11n11⟩) (by assumption) ?rest11n11
            case hy11n11 => (intro w hSw; (try dsimp only at hSw); go_simp; try with_reducible rfl)
            (try simp only [Act.put, List.setIfInBounds_toArray, List.set_cons_zero, List.set_cons_succ])
            refine wpAnyH_ready (rs := [12]) (by kernel_rfl) (by simp) ?_
            refine cons_l rfl (fun K hK => ?_) AllReadyH.nil
            go_simp
            refine hK.out _ _ d3' (fun hHeld => ?_)
            clear hK K
            (try simp only [Act.put, List.setIfInBounds_toArray, List.set_cons_zero, List.set_cons_succ])
            refine wpAnyH_done (by kernel_rfl) ?_ _
            refine NoPanic.normal ?_
            go_wp2
            go_meet
            exact first_row HN1.out HOWN1.out HBU1.out (blk_lt HNU.out)
        case rest =>
          obtain ⟨r, c, cur, hq1, hq2, hq3, hq4, hq5, hq6⟩ := hcut
          have hk2U : Keeps (fun x => x = w.heap.size) Z2 U := (Keeps.turned (S := fun x => x = w.heap.size) (Keeps.of_below HBV.out) HTV.out rfl).trans (Keeps.of_below HBU.out)
          have h1 := HBZ.out.size
          have h2 := HB2.out.size
          have h3 := hk2U.size
          have h4 := HMD.out.keeps.size
          have h5 := HMD.out.map.lt
          have h6 := blk_lt HNY.out
          have h7 := HBY.out.size
          have h8 := hq6.size
          have h9 := blk_lt HN2.out
          have h10 := blk_lt HNU.out
          have HNB := Aside0.mk hq1
          have HNR := Aside0.mk hq2
          have HC0 := Aside0.mk hq3
          have HC1 := Aside0.mk hq4
          have HNS := Aside0.mk ((hq6.block wr.heap.size (by omega) (by omega)).trans ((hk2U.block wr.heap.size (by omega) (by omega)).trans HN2.out))
          have HOW := Aside0.mk (own_nil wc X.heap.size 56 9)
          have HSV := Aside0.mk (show ∀ k, (Value.slice none 0 0).ownBlock = some k → k ≠ Z2.heap.size ∧ k ≠ r ∧ k ≠ wr.heap.size from fun k hk => by simp [Value.ownBlock] at hk)
          have HSZ := Aside0.mk (show X.heap.size ≤ wc.heap.size by omega)
          have HL0 := Aside0.mk (show (0 + 1) * 104 ≤ 140737488355328 by decide)
          have HNE := Aside0.mk (show r ≠ Z2.heap.size ∧ r ≠ wr.heap.size by omega)
          have HRW := Aside0.mk (show wr.heap.size ≤ r ∧ r < wc.heap.size ∧ wr.heap.size ≤ Z2.heap.size ∧ Z2.heap.size < wc.heap.size from ⟨by omega, blk_lt hq2, by omega, by omega⟩)
          have HQ6 := Aside0.mk hq6
          have bb3 : wc.cell? ⟨Z2.heap.size, 3, none⟩ = some (.slice (some ⟨r, 0, none⟩) 1 c) := blk_cell hq1 3
          clear b3 z3 d0 b3'' d0'' hbd hne hq1 hq2 hq3 hq4 hq5 hq6 hk2U h1 h2 h3 h4 h5 h6 h7 h8 h9 h10
          have c3 : wc.cell? ⟨Z2.heap.size, 3, none⟩ = some (.slice (some ⟨r, 0, none⟩) 1 c) ∧ wc.cell? ⟨wr.heap.size, 0, none⟩ = some (.int .i64 T) ∧ wc.cell? ⟨wr.heap.size, 1, none⟩ = some (.int .i64 0) ∧ wc.cell? ⟨wr.heap.size, 2, none⟩ = some (.int .i64 0) ∧ wc.cell? ⟨wr.heap.size, 3, none⟩ = some (.int .i64 (-524288)) ∧ wc.cell? ⟨wr.heap.size, 4, none⟩ = some (.int .u64 0) ∧ wc.cell? ⟨wr.heap.size, 5, none⟩ = some (.int .u64 0) ∧ wc.cell? ⟨wr.heap.size, 6, none⟩ = some (.int .i64 0) ∧ wc.cell? ⟨wr.heap.size, 7, none⟩ = some (.slice none 0 0) ∧ wc.cell? ⟨wr.heap.size, 8, none⟩ = some (.slice none 0 0) := ⟨blk_cell HNB.out 3, blk_cell HNS.out 0, blk_cell HNS.out 1, blk_cell HNS.out 2, blk_cell HNS.out 3, blk_cell HNS.out 4, blk_cell HNS.out 5, blk_cell HNS.out 6, blk_cell HNS.out 7, blk_cell HNS.out 8⟩
          have r1 : wc.cell? ⟨r, 1, none⟩ = some (.slice none 0 0) := (blk_cell HNR.out 1).trans HC1.out
          have hal : Below wc.heap.size wc ((wc.alloc (.cells #[.int .i64 T, .int .i64 0, .int .i64 0, .int .i64 (-524288), .int .u64 0, .int .u64 0, .int .i64 0, .slice none 0 0, .slice none 0 0] 56)).drew) := ((Below.refl _ _).alloc (Nat.le_refl _) _).drew
          have c3a : ((wc.alloc (.cells #[.int .i64 T, .int .i64 0, .int .i64 0, .int .i64 (-524288), .int .u64 0, .int .u64 0, .int .i64 0, .slice none 0 0, .slice none 0 0] 56)).drew).cell? ⟨Z2.heap.size, 3, none⟩ = some (.slice (some ⟨r, 0, none⟩) 1 c) ∧ ((wc.alloc (.cells #[.int .i64 T, .int .i64 0, .int .i64 0, .int .i64 (-524288), .int .u64 0, .int .u64 0, .int .i64 0, .slice none 0 0, .slice none 0 0] 56)).drew).cell? ⟨wr.heap.size, 0, none⟩ = some (.int .i64 T) ∧ ((wc.alloc (.cells #[.int .i64 T, .int .i64 0, .int .i64 0, .int .i64 (-524288), .int .u64 0, .int .u64 0, .int .i64 0, .slice none 0 0, .slice none 0 0] 56)).drew).cell? ⟨wr.heap.size, 1, none⟩ = some (.int .i64 0) ∧ ((wc.alloc (.cells #[.int .i64 T, .int .i64 0, .int .i64 0, .int .i64 (-524288), .int .u64 0, .int .u64 0, .int .i64 0, .slice none 0 0, .slice none 0 0] 56)).drew).cell? ⟨wr.heap.size, 2, none⟩ = some (.int .i64 0) ∧ ((wc.alloc (.cells #[.int .i64 T, .int .i64 0, .int .i64 0, .int .i64 (-524288), .int .u64 0, .int .u64 0, .int .i64 0, .slice none 0 0, .slice none 0 0] 56)).drew).cell? ⟨wr.heap.size, 3, none⟩ = some (.int .i64 (-524288)) ∧ ((wc.alloc (.cells #[.int .i64 T, .int .i64 0, .int .i64 0, .int .i64 (-524288), .int .u64 0, .int .u64 0, .int .i64 0, .slice none 0 0, .slice none 0 0] 56)).drew).cell? ⟨wr.heap.size, 4, none⟩ = some (.int .u64 0) ∧ ((wc.alloc (.cells #[.int .i64 T, .int .i64 0, .int .i64 0, .int .i64 (-524288), .int .u64 0, .int .u64 0, .int .i64 0, .slice none 0 0, .slice none 0 0] 56)).drew).cell? ⟨wr.heap.size, 5, none⟩ = some (.int .u64 0) ∧ ((wc.alloc (.cells #[.int .i64 T, .int .i64 0, .int .i64 0, .int .i64 (-524288), .int .u64 0, .int .u64 0, .int .i64 0, .slice none 0 0, .slice none 0 0] 56)).drew).cell? ⟨wr.heap.size, 6, none⟩ = some (.int .i64 0) ∧ ((wc.alloc (.cells #[.int .i64 T, .int .i64 0, .int .i64 0, .int .i64 (-524288), .int .u64 0, .int .u64 0, .int .i64 0, .slice none 0 0, .slice none 0 0] 56)).drew).cell? ⟨wr.heap.size, 7, none⟩ = some (.slice none 0 0) ∧ ((wc.alloc (.cells #[.int .i64 T, .int .i64 0, .int .i64 0, .int .i64 (-524288), .int .u64 0, .int .u64 0, .int .i64 0, .slice none 0 0, .slice none 0 0] 56)).drew).cell? ⟨wr.heap.size, 8, none⟩ = some (.slice none 0 0) := ⟨pw_cell_below hal c3.1, pw_cell_below hal c3.2.1, pw_cell_below hal c3.2.2.1, pw_cell_below hal c3.2.2.2.1, pw_cell_below hal c3.2.2.2.2.1, pw_cell_below hal c3.2.2.2.2.2.1, pw_cell_below hal c3.2.2.2.2.2.2.1, pw_cell_below hal c3.2.2.2.2.2.2.2.1, pw_cell_below hal c3.2.2.2.2.2.2.2.2.1, pw_cell_below hal c3.2.2.2.2.2.2.2.2.2⟩
          have r1a : ((wc.alloc (.cells #[.int .i64 T, .int .i64 0, .int .i64 0, .int .i64 (-524288), .int .u64 0, .int .u64 0, .int .i64 0, .slice none 0 0, .slice none 0 0] 56)).drew).cell? ⟨r, 1, none⟩ = some (.slice none 0 0) := pw_cell_below hal r1
          have hHS : X.heap.size ≤ wc.heap.size := HSZ.out
          have HC3 := Aside0.mk c3
          have hbg : Below wc.heap.size wc wc.drew := (Below.refl _ _).drew
          have iz : IntKind.i64.wrap 0 = 0 := by kernel_rfl
          clear hal
          go_upto_region 17 with fail
          refine wp_region_noPanic ?_
          refine wp_region_held_drew (S := fun W' => W'.cell? ⟨Z2.heap.size, 3, none⟩ = some (.slice (some ⟨r, 0, none⟩) 1 c) ∧ W'.cell? ⟨wr.heap.size, 0, none⟩ = some (.int .i64 T) ∧ W'.cell? ⟨wr.heap.size, 1, none⟩ = some (.int .i64 0) ∧ W'.cell? ⟨wr.heap.size, 2, none⟩ = some (.int .i64 0) ∧ W'.cell? ⟨wr.heap.size, 3, none⟩ = some (.int .i64 (-524288)) ∧ W'.cell? ⟨wr.heap.size, 4, none⟩ = some (.int .u64 0) ∧ W'.cell? ⟨wr.heap.size, 5, none⟩ = some (.int .u64 0) ∧ W'.cell? ⟨wr.heap.size, 6, none⟩ = some (.int .i64 0) ∧ W'.cell? ⟨wr.heap.size, 7, none⟩ = some (.slice none 0 0) ∧ W'.cell? ⟨wr.heap.size, 8, none⟩ = some (.slice none 0 0)) (by kernel_rfl) c3 (fun hHeld => ?_)
          refine take_l (i := 0) (v := ?v0n101) rfl (by kernel_rfl) (by kernel_rfl) (by kernel_rfl) (fun _ _ _ h => h) (Or.inl ⟨by rfl, ?hy0n101⟩) (by assumption) ?rest0n101
          case hy0n101 => (intro w hSw; (try dsimp only at hSw); go_simp; try with_reducible rfl)
          (try simp only [Act.put, List.setIfInBounds_toArray, List.set_cons_zero, List.set_cons_succ])
          refine take_l (i := 1) (v := ?v1n102) rfl (by kernel_rfl) (by kernel_rfl) (by kernel_rfl) (fun _ _ _ h => h) (Or.inl ⟨by rfl, ?hy1n102⟩) (by assumption) ?rest1n102
          case hy1n102 => (intro w hSw; (try dsimp only at hSw); go_simp; try with_reducible rfl)
          (try simp only [Act.put, List.setIfInBounds_toArray, List.set_cons_zero, List.set_cons_succ])
          refine take_l (i := 2) (v := ?v2n103) rfl (by kernel_rfl) (by kernel_rfl) (by kernel_rfl) (fun _ _ _ h => h) (Or.inl ⟨by rfl, ?hy2n103⟩) (by assumption) ?rest2n103
          case hy2n103 => (intro w hSw; (try dsimp only at hSw); go_simp; try with_reducible rfl)
          (try simp only [Act.put, List.setIfInBounds_toArray, List.set_cons_zero, List.set_cons_succ])
          refine take_l (i := 3) (v := ?v3n104) rfl (by kernel_rfl) (by kernel_rfl) (by kernel_rfl) (fun _ _ _ h => h) (Or.inl ⟨by rfl, ?hy3n104⟩) (by assumption) ?rest3n104
          case hy3n104 => (intro w hSw; (try dsimp only at hSw); go_simp; try with_reducible rfl)
          (try simp only [Act.put, List.setIfInBounds_toArray, List.set_cons_zero, List.set_cons_succ])
          refine take_l (i := 4) (v := ?v4n105) rfl (by kernel_rfl) (by kernel_rfl) (by kernel_rfl) (fun _ _ _ h => h) (Or.inl ⟨by rfl, ?hy4n105⟩) (by assumption) ?rest4n105
          case hy4n105 => (intro w hSw; (try dsimp only at hSw); go_simp; try with_reducible rfl)
          (try simp only [Act.put, List.setIfInBounds_toArray, List.set_cons_zero, List.set_cons_succ])
          refine take_l (i := 5) (v := ?v5n106) rfl (by kernel_rfl) (by kernel_rfl) (by kernel_rfl) (fun _ _ _ h => h) (Or.inl ⟨by rfl, ?hy5n106⟩) (by assumption) ?rest5n106
          case hy5n106 => (intro w hSw; (try dsimp only at hSw); go_simp; try with_reducible rfl)
          (try simp only [Act.put, List.setIfInBounds_toArray, List.set_cons_zero, List.set_cons_succ])
          refine take_l (i := 6) (v := ?v6n107) rfl (by kernel_rfl) (by kernel_rfl) (by kernel_rfl) (fun _ _ _ h => h) (Or.inl ⟨by rfl, ?hy6n107⟩) (by assumption) ?rest6n107
          case hy6n107 => (intro w hSw; (try dsimp only at hSw); go_simp; try with_reducible rfl)
          (try simp only [Act.put, List.setIfInBounds_toArray, List.set_cons_zero, List.set_cons_succ])
          refine take_l (i := 7) (v := ?v7n108) rfl (by kernel_rfl) (by kernel_rfl) (by kernel_rfl) (fun _ _ _ h => h) (Or.inl ⟨by rfl, ?hy7n108⟩) (by assumption) ?rest7n108
          case hy7n108 => (intro w hSw; (try dsimp only at hSw); go_simp; try with_reducible rfl)
          (try simp only [Act.put, List.setIfInBounds_toArray, List.set_cons_zero, List.set_cons_succ])
          refine take_l (i := 8) (v := ?v8n109) rfl (by kernel_rfl) (by kernel_rfl) (by kernel_rfl) (fun _ _ _ h => h) (Or.inl ⟨by rfl, ?hy8n109⟩) (by assumption) ?rest8n109
          case hy8n109 => (intro w hSw; (try dsimp only at hSw); go_simp; try with_reducible rfl)
          (try simp only [Act.put, List.setIfInBounds_toArray, List.set_cons_zero, List.set_cons_succ])
          refine take_l (i := 9) (v := ?v9n110) rfl (by kernel_rfl) (by kernel_rfl) (by kernel_rfl) (fun _ _ _ h => h) (Or.inl ⟨by rfl, ?hy9n110⟩) (by assumption) ?rest9n110
          case hy9n110 => (intro w hSw; (try dsimp only at hSw); go_simp; try with_reducible rfl)
          (try simp only [Act.put, List.setIfInBounds_toArray, List.set_cons_zero, List.set_cons_succ])
          refine take_l (i := 10) (v := ?v10n111) rfl (by kernel_rfl) (by kernel_rfl) (by kernel_rfl) (fun _ _ _ h => h) (Or.inl ⟨by rfl, ?hy10n111⟩) (by assumption) ?rest10n111
          case hy10n111 => (intro w hSw; (try dsimp only at hSw); go_simp; try with_reducible rfl)
          (try simp only [Act.put, List.setIfInBounds_toArray, List.set_cons_zero, List.set_cons_succ])
          refine take_l (i := 11) (v := ?v11n112) rfl (by kernel_rfl) (by kernel_rfl) (by kernel_rfl) (fun _ _ _ h => h) (Or.inl ⟨by rfl, ?hy11n112⟩) (by assumption) ?rest11n112
          case hy11n112 => (intro w hSw; (try dsimp only at hSw); go_simp; try with_reducible rfl)
          (try simp only [Act.put, List.setIfInBounds_toArray, List.set_cons_zero, List.set_cons_succ])
          refine take_l (i := 12) (v := ?v12n113) rfl (by kernel_rfl) (by kernel_rfl) (by kernel_rfl) (fun _ _ _ h => h) (Or.inl ⟨by rfl, ?hy12n113⟩) (by assumption) ?rest12n113
          case hy12n113 => (intro w hSw; (try dsimp only at hSw); go_simp; try with_reducible rfl)
          (try simp only [Act.put, List.setIfInBounds_toArray, List.set_cons_zero, List.set_cons_succ])
          refine take_l (i := 13) (v := ?v13n114) rfl (by kernel_rfl) (by kernel_rfl) (by kernel_rfl) (fun _ _ _ h => h) (Or.inl ⟨by rfl, ?hy13n114⟩) (by assumption) ?rest13n114
          case hy13n114 => (intro w hSw; (try dsimp only at hSw); go_simp; try with_reducible rfl)
          (try simp only [Act.put, List.setIfInBounds_toArray, List.set_cons_zero, List.set_cons_succ])
          refine take_l (i := 15) (v := ?v15n115) rfl (by kernel_rfl) (by kernel_rfl) (by kernel_rfl) (fun _ _ _ h => h) (Or.inl ⟨by rfl, ?hy15n115⟩) (by assumption) ?rest15n115
          case hy15n115 => (intro w hSw; (try dsimp only at hSw); go_simp; try with_reducible rfl)
          (try simp only [Act.put, List.setIfInBounds_toArray, List.set_cons_zero, List.set_cons_succ])
          refine wpAnyH_ready (rs := [14, 16]) (by kernel_rfl) (by simp) ?_
          refine cons_l rfl (fun K hK => ?_) (cons_l rfl (fun K hK => ?_) AllReadyH.nil)
          · go_simp
            refine hK.out _ _ c3 (fun hHeld => ?_)
            clear hK K
            (try simp only [Act.put, List.setIfInBounds_toArray, List.set_cons_zero, List.set_cons_succ])
            refine wpAnyH_ready (rs := [16]) (by kernel_rfl) (by simp) ?_
            refine cons_l rfl (fun K hK => ?_) AllReadyH.nil
            go_simp
            refine hK.out _ _ c3a (fun hHeld => ?_)
            clear hK K
            (try simp only [Act.put, List.setIfInBounds_toArray, List.set_cons_zero, List.set_cons_succ])
            refine wpAnyH_ready (rs := [17]) (by kernel_rfl) (by simp) ?_
            refine cons_l rfl (fun K hK => ?_) AllReadyH.nil
            refine step_append_cells (w0 := wc) X.heap.size (by rfl) (.tmp 106) (.tmp 108) 33 56 (.agg #[.int .i64 0, .int .i64 0, .int .i64 0, .int .i64 0, .int .u64 0, .int .u64 0, .int .i64 0, .slice none 0 0, .slice none 0 0]) 9 104 rfl Try.underlying33 info56 rfl (by decide) (by decide) (.slice none 0 0) 0 [] (sampleCells T) rfl rfl rfl (sample_one T) (show wc.drew.ownsRow X.heap.size 56 9 (.slice none 0 0) 0 [] from HOW.out) (Below.refl X.heap.size wc).drew (show X.heap.size ≤ wc.drew.heap.size from HSZ.out) HL0.out ?_
            intro v2 G1 hown2 hb2' hg2 hat2
            have hnb := (hg2.block Z2.heap.size (blk_lt HNB.out) (fun e => (HSV.out _ e.symm).1 rfl)).trans HNB.out
            have hnr := (hg2.block r (blk_lt HNR.out) (fun e => (HSV.out _ e.symm).2.1 rfl)).trans HNR.out
            have hns := (hg2.block wr.heap.size (blk_lt HNS.out) (fun e => (HSV.out _ e.symm).2.2 rfl)).trans HNS.out
            have c4 : G1.cell? ⟨Z2.heap.size, 3, none⟩ = some (.slice (some ⟨r, 0, none⟩) 1 c) ∧ G1.cell? ⟨wr.heap.size, 0, none⟩ = some (.int .i64 T) ∧ G1.cell? ⟨wr.heap.size, 1, none⟩ = some (.int .i64 0) ∧ G1.cell? ⟨wr.heap.size, 2, none⟩ = some (.int .i64 0) ∧ G1.cell? ⟨wr.heap.size, 3, none⟩ = some (.int .i64 (-524288)) ∧ G1.cell? ⟨wr.heap.size, 4, none⟩ = some (.int .u64 0) ∧ G1.cell? ⟨wr.heap.size, 5, none⟩ = some (.int .u64 0) ∧ G1.cell? ⟨wr.heap.size, 6, none⟩ = some (.int .i64 0) ∧ G1.cell? ⟨wr.heap.size, 7, none⟩ = some (.slice none 0 0) ∧ G1.cell? ⟨wr.heap.size, 8, none⟩ = some (.slice none 0 0) := ⟨blk_cell hnb 3, blk_cell hns 0, blk_cell hns 1, blk_cell hns 2, blk_cell hns 3, blk_cell hns 4, blk_cell hns 5, blk_cell hns 6, blk_cell hns 7, blk_cell hns 8⟩
            have r1' : G1.cell? ⟨r, 1, none⟩ = some (.slice none 0 0) := (blk_cell hnr 1).trans HC1.out
            have z1' : G1.frozen? ⟨r, 1, none⟩ = false := blk_frozen hnr 1
            obtain ⟨A2, c2', rfl⟩ := own_slice hown2
            have e1 : r ≠ Z2.heap.size := HNE.out.1
            have e2 : r ≠ wr.heap.size := HNE.out.2
            have c5 : (G1.setCell ⟨r, 1, none⟩ (.slice A2 (0 + 1) c2')).cell? ⟨Z2.heap.size, 3, none⟩ = some (.slice (some ⟨r, 0, none⟩) 1 c) ∧ (G1.setCell ⟨r, 1, none⟩ (.slice A2 (0 + 1) c2')).cell? ⟨wr.heap.size, 0, none⟩ = some (.int .i64 T) ∧ (G1.setCell ⟨r, 1, none⟩ (.slice A2 (0 + 1) c2')).cell? ⟨wr.heap.size, 1, none⟩ = some (.int .i64 0) ∧ (G1.setCell ⟨r, 1, none⟩ (.slice A2 (0 + 1) c2')).cell? ⟨wr.heap.size, 2, none⟩ = some (.int .i64 0) ∧ (G1.setCell ⟨r, 1, none⟩ (.slice A2 (0 + 1) c2')).cell? ⟨wr.heap.size, 3, none⟩ = some (.int .i64 (-524288)) ∧ (G1.setCell ⟨r, 1, none⟩ (.slice A2 (0 + 1) c2')).cell? ⟨wr.heap.size, 4, none⟩ = some (.int .u64 0) ∧ (G1.setCell ⟨r, 1, none⟩ (.slice A2 (0 + 1) c2')).cell? ⟨wr.heap.size, 5, none⟩ = some (.int .u64 0) ∧ (G1.setCell ⟨r, 1, none⟩ (.slice A2 (0 + 1) c2')).cell? ⟨wr.heap.size, 6, none⟩ = some (.int .i64 0) ∧ (G1.setCell ⟨r, 1, none⟩ (.slice A2 (0 + 1) c2')).cell? ⟨wr.heap.size, 7, none⟩ = some (.slice none 0 0) ∧ (G1.setCell ⟨r, 1, none⟩ (.slice A2 (0 + 1) c2')).cell? ⟨wr.heap.size, 8, none⟩ = some (.slice none 0 0) := ⟨(World.cell?_setCell_far _ _ _ _ e1).trans c4.1, (World.cell?_setCell_far _ _ _ _ e2).trans c4.2.1, (World.cell?_setCell_far _ _ _ _ e2).trans c4.2.2.1, (World.cell?_setCell_far _ _ _ _ e2).trans c4.2.2.2.1, (World.cell?_setCell_far _ _ _ _ e2).trans c4.2.2.2.2.1, (World.cell?_setCell_far _ _ _ _ e2).trans c4.2.2.2.2.2.1, (World.cell?_setCell_far _ _ _ _ e2).trans c4.2.2.2.2.2.2.1, (World.cell?_setCell_far _ _ _ _ e2).trans c4.2.2.2.2.2.2.2.1, (World.cell?_setCell_far _ _ _ _ e2).trans c4.2.2.2.2.2.2.2.2.1, (World.cell?_setCell_far _ _ _ _ e2).trans c4.2.2.2.2.2.2.2.2.2⟩
            have HO2 := Aside0.mk hown2
            have HG2 := Aside0.mk hg2
            have HAT2 := Aside0.mk hat2
            have HNR2 := Aside0.mk hnr
            have HNB2 := Aside0.mk hnb
            clear hown2 hg2 hat2 hnb hnr hns hb2' e1 e2
            refine hK.out _ _ c4 (fun hHeld => ?_)
            clear hK K
            (try simp only [Act.put, List.setIfInBounds_toArray, List.set_cons_zero, List.set_cons_succ])
            refine take_l (i := 18) (v := ?v18n116) rfl (by kernel_rfl) (by kernel_rfl) (by kernel_rfl) (fun _ _ _ h => h) (Or.inl ⟨by rfl, ?hy18n116⟩) (by assumption) ?rest18n116
            case hy18n116 => (intro w hSw; (try dsimp only at hSw); go_simp; try with_reducible rfl)
            (try simp only [Act.put, List.setIfInBounds_toArray, List.set_cons_zero, List.set_cons_succ])
            refine take_l (i := 19) (v := ?v19n117) rfl (by kernel_rfl) (by kernel_rfl) (by kernel_rfl) (fun _ _ _ h => h) (Or.inl ⟨by rfl, ?hy19n117⟩) (by assumption) ?rest19n117
            case hy19n117 => (intro w hSw; (try dsimp only at hSw); go_simp; try with_reducible rfl)
            (try simp only [Act.put, List.setIfInBounds_toArray, List.set_cons_zero, List.set_cons_succ])
            refine wpAnyH_ready (rs := [20]) (by kernel_rfl) (by simp) ?_
            refine cons_l rfl (fun K hK => ?_) AllReadyH.nil
            go_simp
            refine hK.out _ _ c5 (fun hHeld => ?_)
            clear hK K
            (try simp only [Act.put, List.setIfInBounds_toArray, List.set_cons_zero, List.set_cons_succ])
            refine wpAnyH_done (by kernel_rfl) ?_ _
            refine NoPanic.normal ?_
            go_wp2
            go_roundg qq
            case measure => omega
            case rel =>
              obtain ⟨hk3, hbk⟩ := blk_put_sample (ts := []) (Sx := fun x => wr.heap.size ≤ x ∧ x < wc.heap.size) HNB.out HNR.out HC0.out HC1.out ⟨HRW.out.2.2.1, HRW.out.2.2.2⟩ ⟨HRW.out.1, HRW.out.2.1⟩ (fun k hk => by simp [Value.ownBlock] at hk) HNE.out.1 (fun k hk => by simp [Value.ownBlock] at hk) HO2.out HG2.out HAT2.out
              obtain ⟨S', hS⟩ := close_new HMD.out HMN.out HVU.out HKU.out HQ6.out hk3 HRW.out.2.2.1 HRW.out.1 hbk
              rw [show (fun x => if x = lw then tsAt i x ++ [T] else tsAt i x) = tsAt (i + 1) from funext fun x => (HTS.out x).symm] at hS
              exact ⟨i + 1, n + 1, _, S', by go_num, by have := HIK.out; omega, by omega, hS⟩
          · go_simp
            refine hK.out _ _ c3a (fun hHeld => ?_)
            clear hK K
            (try simp only [Act.put, List.setIfInBounds_toArray, List.set_cons_zero, List.set_cons_succ])
            refine wpAnyH_ready (rs := [14]) (by kernel_rfl) (by simp) ?_
            refine cons_l rfl (fun K hK => ?_) AllReadyH.nil
            go_simp
            refine hK.out _ _ c3a (fun hHeld => ?_)
            clear hK K
            (try simp only [Act.put, List.setIfInBounds_toArray, List.set_cons_zero, List.set_cons_succ])
            refine wpAnyH_ready (rs := [17]) (by kernel_rfl) (by simp) ?_
            refine cons_l rfl (fun K hK => ?_) AllReadyH.nil
            refine step_append_cells (w0 := wc) X.heap.size (by rfl) (.tmp 106) (.tmp 108) 33 56 (.agg #[.int .i64 0, .int .i64 0, .int .i64 0, .int .i64 0, .int .u64 0, .int .u64 0, .int .i64 0, .slice none 0 0, .slice none 0 0]) 9 104 rfl Try.underlying33 info56 rfl (by decide) (by decide) (.slice none 0 0) 0 [] (sampleCells T) rfl rfl rfl (sample_one T) (show wc.drew.ownsRow X.heap.size 56 9 (.slice none 0 0) 0 [] from HOW.out) (Below.refl X.heap.size wc).drew (show X.heap.size ≤ wc.drew.heap.size from HSZ.out) HL0.out ?_
            intro v2 G1 hown2 hb2' hg2 hat2
            have hnb := (hg2.block Z2.heap.size (blk_lt HNB.out) (fun e => (HSV.out _ e.symm).1 rfl)).trans HNB.out
            have hnr := (hg2.block r (blk_lt HNR.out) (fun e => (HSV.out _ e.symm).2.1 rfl)).trans HNR.out
            have hns := (hg2.block wr.heap.size (blk_lt HNS.out) (fun e => (HSV.out _ e.symm).2.2 rfl)).trans HNS.out
            have c4 : G1.cell? ⟨Z2.heap.size, 3, none⟩ = some (.slice (some ⟨r, 0, none⟩) 1 c) ∧ G1.cell? ⟨wr.heap.size, 0, none⟩ = some (.int .i64 T) ∧ G1.cell? ⟨wr.heap.size, 1, none⟩ = some (.int .i64 0) ∧ G1.cell? ⟨wr.heap.size, 2, none⟩ = some (.int .i64 0) ∧ G1.cell? ⟨wr.heap.size, 3, none⟩ = some (.int .i64 (-524288)) ∧ G1.cell? ⟨wr.heap.size, 4, none⟩ = some (.int .u64 0) ∧ G1.cell? ⟨wr.heap.size, 5, none⟩ = some (.int .u64 0) ∧ G1.cell? ⟨wr.heap.size, 6, none⟩ = some (.int .i64 0) ∧ G1.cell? ⟨wr.heap.size, 7, none⟩ = some (.slice none 0 0) ∧ G1.cell? ⟨wr.heap.size, 8, none⟩ = some (.slice none 0 0) := ⟨blk_cell hnb 3, blk_cell hns 0, blk_cell hns 1, blk_cell hns 2, blk_cell hns 3, blk_cell hns 4, blk_cell hns 5, blk_cell hns 6, blk_cell hns 7, blk_cell hns 8⟩
            have r1' : G1.cell? ⟨r, 1, none⟩ = some (.slice none 0 0) := (blk_cell hnr 1).trans HC1.out
            have z1' : G1.frozen? ⟨r, 1, none⟩ = false := blk_frozen hnr 1
            obtain ⟨A2, c2', rfl⟩ := own_slice hown2
            have e1 : r ≠ Z2.heap.size := HNE.out.1
            have e2 : r ≠ wr.heap.size := HNE.out.2
            have c5 : (G1.setCell ⟨r, 1, none⟩ (.slice A2 (0 + 1) c2')).cell? ⟨Z2.heap.size, 3, none⟩ = some (.slice (some ⟨r, 0, none⟩) 1 c) ∧ (G1.setCell ⟨r, 1, none⟩ (.slice A2 (0 + 1) c2')).cell? ⟨wr.heap.size, 0, none⟩ = some (.int .i64 T) ∧ (G1.setCell ⟨r, 1, none⟩ (.slice A2 (0 + 1) c2')).cell? ⟨wr.heap.size, 1, none⟩ = some (.int .i64 0) ∧ (G1.setCell ⟨r, 1, none⟩ (.slice A2 (0 + 1) c2')).cell? ⟨wr.heap.size, 2, none⟩ = some (.int .i64 0) ∧ (G1.setCell ⟨r, 1, none⟩ (.slice A2 (0 + 1) c2')).cell? ⟨wr.heap.size, 3, none⟩ = some (.int .i64 (-524288)) ∧ (G1.setCell ⟨r, 1, none⟩ (.slice A2 (0 + 1) c2')).cell? ⟨wr.heap.size, 4, none⟩ = some (.int .u64 0) ∧ (G1.setCell ⟨r, 1, none⟩ (.slice A2 (0 + 1) c2')).cell? ⟨wr.heap.size, 5, none⟩ = some (.int .u64 0) ∧ (G1.setCell ⟨r, 1, none⟩ (.slice A2 (0 + 1) c2')).cell? ⟨wr.heap.size, 6, none⟩ = some (.int .i64 0) ∧ (G1.setCell ⟨r, 1, none⟩ (.slice A2 (0 + 1) c2')).cell? ⟨wr.heap.size, 7, none⟩ = some (.slice none 0 0) ∧ (G1.setCell ⟨r, 1, none⟩ (.slice A2 (0 + 1) c2')).cell? ⟨wr.heap.size, 8, none⟩ = some (.slice none 0 0) := ⟨(World.cell?_setCell_far _ _ _ _ e1).trans c4.1, (World.cell?_setCell_far _ _ _ _ e2).trans c4.2.1, (World.cell?_setCell_far _ _ _ _ e2).trans c4.2.2.1, (World.cell?_setCell_far _ _ _ _ e2).trans c4.2.2.2.1, (World.cell?_setCell_far _ _ _ _ e2).trans c4.2.2.2.2.1, (World.cell?_setCell_far _ _ _ _ e2).trans c4.2.2.2.2.2.1, (World.cell?_setCell_far _ _ _ _ e2).trans c4.2.2.2.2.2.2.1, (World.cell?_setCell_far _ _ _ _ e2).trans c4.2.2.2.2.2.2.2.1, (World.cell?_setCell_far _ _ _ _ e2).trans c4.2.2.2.2.2.2.2.2.1, (World.cell?_setCell_far _ _ _ _ e2).trans c4.2.2.2.2.2.2.2.2.2⟩
            have HO2 := Aside0.mk hown2
            have HG2 := Aside0.mk hg2
            have HAT2 := Aside0.mk hat2
            have HNR2 := Aside0.mk hnr
            have HNB2 := Aside0.mk hnb
            clear hown2 hg2 hat2 hnb hnr hns hb2' e1 e2
            refine hK.out _ _ c4 (fun hHeld => ?_)
            clear hK K
            (try simp only [Act.put, List.setIfInBounds_toArray, List.set_cons_zero, List.set_cons_succ])
            refine take_l (i := 18) (v := ?v18n118) rfl (by kernel_rfl) (by kernel_rfl) (by kernel_rfl) (fun _ _ _ h => h) (Or.inl ⟨by rfl, ?hy18n118⟩) (by assumption) ?rest18n118
            case hy18n118 => (intro w hSw; (try dsimp only at hSw); go_simp; try with_reducible rfl)
            (try simp only [Act.put, List.setIfInBounds_toArray, List.set_cons_zero, List.set_cons_succ])
            refine take_l (i := 19) (v := ?v19n119) rfl (by kernel_rfl) (by kernel_rfl) (by kernel_rfl) (fun _ _ _ h => h) (Or.inl ⟨by rfl, ?hy19n119⟩) (by assumption) ?rest19n119
            case hy19n119 => (intro w hSw; (try dsimp only at hSw); go_simp; try with_reducible rfl)
            (try simp only [Act.put, List.setIfInBounds_toArray, List.set_cons_zero, List.set_cons_succ])
            refine wpAnyH_ready (rs := [20]) (by kernel_rfl) (by simp) ?_
            refine cons_l rfl (fun K hK => ?_) AllReadyH.nil
            go_simp
            refine hK.out _ _ c5 (fun hHeld => ?_)
            clear hK K
            (try simp only [Act.put, List.setIfInBounds_toArray, List.set_cons_zero, List.set_cons_succ])
            refine wpAnyH_done (by kernel_rfl) ?_ _
            refine NoPanic.normal ?_
            go_wp2
            go_roundg qq
            case measure => omega
            case rel =>
              obtain ⟨hk3, hbk⟩ := blk_put_sample (ts := []) (Sx := fun x => wr.heap.size ≤ x ∧ x < wc.heap.size) HNB.out HNR.out HC0.out HC1.out ⟨HRW.out.2.2.1, HRW.out.2.2.2⟩ ⟨HRW.out.1, HRW.out.2.1⟩ (fun k hk => by simp [Value.ownBlock] at hk) HNE.out.1 (fun k hk => by simp [Value.ownBlock] at hk) HO2.out HG2.out HAT2.out
              obtain ⟨S', hS⟩ := close_new HMD.out HMN.out HVU.out HKU.out HQ6.out hk3 HRW.out.2.2.1 HRW.out.1 hbk
              rw [show (fun x => if x = lw then tsAt i x ++ [T] else tsAt i x) = tsAt (i + 1) from funext fun x => (HTS.out x).symm] at hS
              exact ⟨i + 1, n + 1, _, S', by go_num, by have := HIK.out; omega, by omega, hS⟩
      | some b =>
        rw [hm, ptr_some] at hlook
        have HMS := Aside0.mk hm
        obtain ⟨r, c, sv, cur, hSb, hSr, hb, hr, hc0, hc1, how, hsv⟩ := HMZ.out.blk lw b hm
        clear hm
        have b3 : Z.cell? ⟨b, 3, none⟩ = some (.slice (some ⟨r, 0, none⟩) 1 c) := blk_cell hb 3
        have iz : IntKind.i64.wrap 0 = 0 := by kernel_rfl
        have hrowZ : Z.heap[W.heap.size]? = some (.cells #[.string keyB, .slice (some ⟨gs, 0, none⟩) 3 c2] 36 (0, 0)) := (HBZ.out.block _ (blk_lt HNW.out)).trans HNW.out
        have HROWZ := Aside0.mk hrowZ
        have HB0 := Aside0.mk hb
        have HR0 := Aside0.mk hr
        have HC0 := Aside0.mk hc0
        have HC1 := Aside0.mk hc1
        have HOW0 := Aside0.mk how
        have HSB := Aside0.mk hSb
        have HSR := Aside0.mk hSr
        have HSV0 := Aside0.mk hsv
        clear hSb hSr hb hr hc0 hc1 how hsv hrowZ
        go_upto_region 14 with fail
        obtain ⟨T1, f1, kb, kn, ⟨x1, hx⟩⟩ := family Z
        have e1 : ∀ x, (f1 x).cell? ⟨b, 3, none⟩ = some (.slice (some ⟨r, 0, none⟩) 1 c) := fun x => pw_cell_below (kb x) b3
        have e2 : ∀ x, (f1 x).cell? ⟨r, 0, none⟩ = some (.string keyB) := fun x => pw_cell_below (kb x) ((blk_cell HR0.out 0).trans HC0.out)
        have e3 : ∀ x, (f1 x).cell? ⟨W.heap.size, 0, none⟩ = some (.string keyB) := fun x => pw_cell_below (kb x) (blk_cell HROWZ.out 0)
        have KB1 := Aside0.mk kb
        have KX := Aside0.mk hx
        haveI : Nonempty T1 := ⟨x1⟩
        clear kb kn hx
        refine wp_region_family f1 (by kernel_rfl) (by kernel_rfl) ⟨x1, KX.out⟩ ?_
        repeat (first | go_big_quiet_step ((fail)) | quiet_step (fail))
        refine wpQuiet_nil ?_
        rintro w' ⟨y1, rfl⟩
        have hbU : Below Z.heap.size Z (f1 y1) := KB1.out y1
        clear e1 e2 e3
        generalize f1 y1 = U at hbU ⊢
        have HBU := Aside0.mk hbU
        clear KB1 KX b3 hlook
        have HNB := Aside0.mk ((hbU.block _ (blk_lt HB0.out)).trans HB0.out)
        have HNR := Aside0.mk ((hbU.block _ (blk_lt HR0.out)).trans HR0.out)
        have HNS := Aside0.mk ((hbU.block _ (blk_lt HNZ.out)).trans HNZ.out)
        have HOW := Aside0.mk (pw_own_below HOW0.out hbU)
        have bb3 : U.cell? ⟨b, 3, none⟩ = some (.slice (some ⟨r, 0, none⟩) 1 c) := blk_cell HNB.out 3
        have h1 := HBZ.out.size
        have h2 := hbU.size
        have h4 := HMD.out.keeps.size
        have HSV := Aside0.mk (show ∀ k, sv.ownBlock = some k → k ≠ b ∧ k ≠ r ∧ k ≠ wr.heap.size from fun k hk => by
          obtain ⟨cells, hcl⟩ := own_typed HOW0.out k hk
          refine ⟨fun e => ?_, fun e => ?_, fun e => ?_⟩
          · exact blk_ne hcl HB0.out (by decide) e
          · exact blk_ne hcl HR0.out (by decide) e
          · have := (HMD.out.low lw k (HSV0.out k hk)).2; omega)
        have HSZ := Aside0.mk (show X.heap.size ≤ U.heap.size by omega)
        have HL0 := Aside0.mk (show ((tsAt i lw).length + 1) * 104 ≤ 140737488355328 by have := tsAt_length i lw; omega)
        have HNE := Aside0.mk (show r ≠ b ∧ r ≠ wr.heap.size from ⟨fun e => blk_ne HR0.out HB0.out (by decide) e, fun e => by have := (HMD.out.low lw r HSR.out).2; omega⟩)
        have HBWU := Aside0.mk (HBZ.out.trans (hbU.mono HBZ.out.size))
        clear hbU h1 h2 h4
        have c3 : U.cell? ⟨b, 3, none⟩ = some (.slice (some ⟨r, 0, none⟩) 1 c) ∧ U.cell? ⟨wr.heap.size, 0, none⟩ = some (.int .i64 T) ∧ U.cell? ⟨wr.heap.size, 1, none⟩ = some (.int .i64 0) ∧ U.cell? ⟨wr.heap.size, 2, none⟩ = some (.int .i64 0) ∧ U.cell? ⟨wr.heap.size, 3, none⟩ = some (.int .i64 (-524288)) ∧ U.cell? ⟨wr.heap.size, 4, none⟩ = some (.int .u64 0) ∧ U.cell? ⟨wr.heap.size, 5, none⟩ = some (.int .u64 0) ∧ U.cell? ⟨wr.heap.size, 6, none⟩ = some (.int .i64 0) ∧ U.cell? ⟨wr.heap.size, 7, none⟩ = some (.slice none 0 0) ∧ U.cell? ⟨wr.heap.size, 8, none⟩ = some (.slice none 0 0) := ⟨blk_cell HNB.out 3, blk_cell HNS.out 0, blk_cell HNS.out 1, blk_cell HNS.out 2, blk_cell HNS.out 3, blk_cell HNS.out 4, blk_cell HNS.out 5, blk_cell HNS.out 6, blk_cell HNS.out 7, blk_cell HNS.out 8⟩
        have r1 : U.cell? ⟨r, 1, none⟩ = some (sv) := (blk_cell HNR.out 1).trans HC1.out
        have hal : Below U.heap.size U ((U.alloc (.cells #[.int .i64 T, .int .i64 0, .int .i64 0, .int .i64 (-524288), .int .u64 0, .int .u64 0, .int .i64 0, .slice none 0 0, .slice none 0 0] 56)).drew) := ((Below.refl _ _).alloc (Nat.le_refl _) _).drew
        have c3a : ((U.alloc (.cells #[.int .i64 T, .int .i64 0, .int .i64 0, .int .i64 (-524288), .int .u64 0, .int .u64 0, .int .i64 0, .slice none 0 0, .slice none 0 0] 56)).drew).cell? ⟨b, 3, none⟩ = some (.slice (some ⟨r, 0, none⟩) 1 c) ∧ ((U.alloc (.cells #[.int .i64 T, .int .i64 0, .int .i64 0, .int .i64 (-524288), .int .u64 0, .int .u64 0, .int .i64 0, .slice none 0 0, .slice none 0 0] 56)).drew).cell? ⟨wr.heap.size, 0, none⟩ = some (.int .i64 T) ∧ ((U.alloc (.cells #[.int .i64 T, .int .i64 0, .int .i64 0, .int .i64 (-524288), .int .u64 0, .int .u64 0, .int .i64 0, .slice none 0 0, .slice none 0 0] 56)).drew).cell? ⟨wr.heap.size, 1, none⟩ = some (.int .i64 0) ∧ ((U.alloc (.cells #[.int .i64 T, .int .i64 0, .int .i64 0, .int .i64 (-524288), .int .u64 0, .int .u64 0, .int .i64 0, .slice none 0 0, .slice none 0 0] 56)).drew).cell? ⟨wr.heap.size, 2, none⟩ = some (.int .i64 0) ∧ ((U.alloc (.cells #[.int .i64 T, .int .i64 0, .int .i64 0, .int .i64 (-524288), .int .u64 0, .int .u64 0, .int .i64 0, .slice none 0 0, .slice none 0 0] 56)).drew).cell? ⟨wr.heap.size, 3, none⟩ = some (.int .i64 (-524288)) ∧ ((U.alloc (.cells #[.int .i64 T, .int .i64 0, .int .i64 0, .int .i64 (-524288), .int .u64 0, .int .u64 0, .int .i64 0, .slice none 0 0, .slice none 0 0] 56)).drew).cell? ⟨wr.heap.size, 4, none⟩ = some (.int .u64 0) ∧ ((U.alloc (.cells #[.int .i64 T, .int .i64 0, .int .i64 0, .int .i64 (-524288), .int .u64 0, .int .u64 0, .int .i64 0, .slice none 0 0, .slice none 0 0] 56)).drew).cell? ⟨wr.heap.size, 5, none⟩ = some (.int .u64 0) ∧ ((U.alloc (.cells #[.int .i64 T, .int .i64 0, .int .i64 0, .int .i64 (-524288), .int .u64 0, .int .u64 0, .int .i64 0, .slice none 0 0, .slice none 0 0] 56)).drew).cell? ⟨wr.heap.size, 6, none⟩ = some (.int .i64 0) ∧ ((U.alloc (.cells #[.int .i64 T, .int .i64 0, .int .i64 0, .int .i64 (-524288), .int .u64 0, .int .u64 0, .int .i64 0, .slice none 0 0, .slice none 0 0] 56)).drew).cell? ⟨wr.heap.size, 7, none⟩ = some (.slice none 0 0) ∧ ((U.alloc (.cells #[.int .i64 T, .int .i64 0, .int .i64 0, .int .i64 (-524288), .int .u64 0, .int .u64 0, .int .i64 0, .slice none 0 0, .slice none 0 0] 56)).drew).cell? ⟨wr.heap.size, 8, none⟩ = some (.slice none 0 0) := ⟨pw_cell_below hal c3.1, pw_cell_below hal c3.2.1, pw_cell_below hal c3.2.2.1, pw_cell_below hal c3.2.2.2.1, pw_cell_below hal c3.2.2.2.2.1, pw_cell_below hal c3.2.2.2.2.2.1, pw_cell_below hal c3.2.2.2.2.2.2.1, pw_cell_below hal c3.2.2.2.2.2.2.2.1, pw_cell_below hal c3.2.2.2.2.2.2.2.2.1, pw_cell_below hal c3.2.2.2.2.2.2.2.2.2⟩
        have r1a : ((U.alloc (.cells #[.int .i64 T, .int .i64 0, .int .i64 0, .int .i64 (-524288), .int .u64 0, .int .u64 0, .int .i64 0, .slice none 0 0, .slice none 0 0] 56)).drew).cell? ⟨r, 1, none⟩ = some (sv) := pw_cell_below hal r1
        have hHS : X.heap.size ≤ U.heap.size := HSZ.out
        have HC3 := Aside0.mk c3
        have hbg : Below U.heap.size U U.drew := (Below.refl _ _).drew
        have iz : IntKind.i64.wrap 0 = 0 := by kernel_rfl
        clear hal
        go_upto_region 17 with fail
        refine wp_region_noPanic ?_
        refine wp_region_held_drew (S := fun W' => W'.cell? ⟨b, 3, none⟩ = some (.slice (some ⟨r, 0, none⟩) 1 c) ∧ W'.cell? ⟨wr.heap.size, 0, none⟩ = some (.int .i64 T) ∧ W'.cell? ⟨wr.heap.size, 1, none⟩ = some (.int .i64 0) ∧ W'.cell? ⟨wr.heap.size, 2, none⟩ = some (.int .i64 0) ∧ W'.cell? ⟨wr.heap.size, 3, none⟩ = some (.int .i64 (-524288)) ∧ W'.cell? ⟨wr.heap.size, 4, none⟩ = some (.int .u64 0) ∧ W'.cell? ⟨wr.heap.size, 5, none⟩ = some (.int .u64 0) ∧ W'.cell? ⟨wr.heap.size, 6, none⟩ = some (.int .i64 0) ∧ W'.cell? ⟨wr.heap.size, 7, none⟩ = some (.slice none 0 0) ∧ W'.cell? ⟨wr.heap.size, 8, none⟩ = some (.slice none 0 0)) (by kernel_rfl) c3 (fun hHeld => ?_)
        refine take_l (i := 0) (v := ?v0n201) rfl (by kernel_rfl) (by kernel_rfl) (by kernel_rfl) (fun _ _ _ h => h) (Or.inl ⟨by rfl, ?hy0n201⟩) (by assumption) ?rest0n201
        case hy0n201 => (intro w hSw; (try dsimp only at hSw); go_simp; try with_reducible rfl)
        (try simp only [Act.put, List.setIfInBounds_toArray, List.set_cons_zero, List.set_cons_succ])
        refine take_l (i := 1) (v := ?v1n202) rfl (by kernel_rfl) (by kernel_rfl) (by kernel_rfl) (fun _ _ _ h => h) (Or.inl ⟨by rfl, ?hy1n202⟩) (by assumption) ?rest1n202
        case hy1n202 => (intro w hSw; (try dsimp only at hSw); go_simp; try with_reducible rfl)
        (try simp only [Act.put, List.setIfInBounds_toArray, List.set_cons_zero, List.set_cons_succ])
        refine take_l (i := 2) (v := ?v2n203) rfl (by kernel_rfl) (by kernel_rfl) (by kernel_rfl) (fun _ _ _ h => h) (Or.inl ⟨by rfl, ?hy2n203⟩) (by assumption) ?rest2n203
        case hy2n203 => (intro w hSw; (try dsimp only at hSw); go_simp; try with_reducible rfl)
        (try simp only [Act.put, List.setIfInBounds_toArray, List.set_cons_zero, List.set_cons_succ])
        refine take_l (i := 3) (v := ?v3n204) rfl (by kernel_rfl) (by kernel_rfl) (by kernel_rfl) (fun _ _ _ h => h) (Or.inl ⟨by rfl, ?hy3n204⟩) (by assumption) ?rest3n204
        case hy3n204 => (intro w hSw; (try dsimp only at hSw); go_simp; try with_reducible rfl)
        (try simp only [Act.put, List.setIfInBounds_toArray, List.set_cons_zero, List.set_cons_succ])
        refine take_l (i := 4) (v := ?v4n205) rfl (by kernel_rfl) (by kernel_rfl) (by kernel_rfl) (fun _ _ _ h => h) (Or.inl ⟨by rfl, ?hy4n205⟩) (by assumption) ?rest4n205
        case hy4n205 => (intro w hSw; (try dsimp only at hSw); go_simp; try with_reducible rfl)
        (try simp only [Act.put, List.setIfInBounds_toArray, List.set_cons_zero, List.set_cons_succ])
        refine take_l (i := 5) (v := ?v5n206) rfl (by kernel_rfl) (by kernel_rfl) (by kernel_rfl) (fun _ _ _ h => h) (Or.inl ⟨by rfl, ?hy5n206⟩) (by assumption) ?rest5n206
        case hy5n206 => (intro w hSw; (try dsimp only at hSw); go_simp; try with_reducible rfl)
        (try simp only [Act.put, List.setIfInBounds_toArray, List.set_cons_zero, List.set_cons_succ])
        refine take_l (i := 6) (v := ?v6n207) rfl (by kernel_rfl) (by kernel_rfl) (by kernel_rfl) (fun _ _ _ h => h) (Or.inl ⟨by rfl, ?hy6n207⟩) (by assumption) ?rest6n207
        case hy6n207 => (intro w hSw; (try dsimp only at hSw); go_simp; try with_reducible rfl)
        (try simp only [Act.put, List.setIfInBounds_toArray, List.set_cons_zero, List.set_cons_succ])
        refine take_l (i := 7) (v := ?v7n208) rfl (by kernel_rfl) (by kernel_rfl) (by kernel_rfl) (fun _ _ _ h => h) (Or.inl ⟨by rfl, ?hy7n208⟩) (by assumption) ?rest7n208
        case hy7n208 => (intro w hSw; (try dsimp only at hSw); go_simp; try with_reducible rfl)
        (try simp only [Act.put, List.setIfInBounds_toArray, List.set_cons_zero, List.set_cons_succ])
        refine take_l (i := 8) (v := ?v8n209) rfl (by kernel_rfl) (by kernel_rfl) (by kernel_rfl) (fun _ _ _ h => h) (Or.inl ⟨by rfl, ?hy8n209⟩) (by assumption) ?rest8n209
        case hy8n209 => (intro w hSw; (try dsimp only at hSw); go_simp; try with_reducible rfl)
        (try simp only [Act.put, List.setIfInBounds_toArray, List.set_cons_zero, List.set_cons_succ])
        refine take_l (i := 9) (v := ?v9n210) rfl (by kernel_rfl) (by kernel_rfl) (by kernel_rfl) (fun _ _ _ h => h) (Or.inl ⟨by rfl, ?hy9n210⟩) (by assumption) ?rest9n210
        case hy9n210 => (intro w hSw; (try dsimp only at hSw); go_simp; try with_reducible rfl)
        (try simp only [Act.put, List.setIfInBounds_toArray, List.set_cons_zero, List.set_cons_succ])
        refine take_l (i := 10) (v := ?v10n211) rfl (by kernel_rfl) (by kernel_rfl) (by kernel_rfl) (fun _ _ _ h => h) (Or.inl ⟨by rfl, ?hy10n211⟩) (by assumption) ?rest10n211
        case hy10n211 => (intro w hSw; (try dsimp only at hSw); go_simp; try with_reducible rfl)
        (try simp only [Act.put, List.setIfInBounds_toArray, List.set_cons_zero, List.set_cons_succ])
        refine take_l (i := 11) (v := ?v11n212) rfl (by kernel_rfl) (by kernel_rfl) (by kernel_rfl) (fun _ _ _ h => h) (Or.inl ⟨by rfl, ?hy11n212⟩) (by assumption) ?rest11n212
        case hy11n212 => (intro w hSw; (try dsimp only at hSw); go_simp; try with_reducible rfl)
        (try simp only [Act.put, List.setIfInBounds_toArray, List.set_cons_zero, List.set_cons_succ])
        refine take_l (i := 12) (v := ?v12n213) rfl (by kernel_rfl) (by kernel_rfl) (by kernel_rfl) (fun _ _ _ h => h) (Or.inl ⟨by rfl, ?hy12n213⟩) (by assumption) ?rest12n213
        case hy12n213 => (intro w hSw; (try dsimp only at hSw); go_simp; try with_reducible rfl)
        (try simp only [Act.put, List.setIfInBounds_toArray, List.set_cons_zero, List.set_cons_succ])
        refine take_l (i := 13) (v := ?v13n214) rfl (by kernel_rfl) (by kernel_rfl) (by kernel_rfl) (fun _ _ _ h => h) (Or.inl ⟨by rfl, ?hy13n214⟩) (by assumption) ?rest13n214
        case hy13n214 => (intro w hSw; (try dsimp only at hSw); go_simp; try with_reducible rfl)
        (try simp only [Act.put, List.setIfInBounds_toArray, List.set_cons_zero, List.set_cons_succ])
        refine take_l (i := 15) (v := ?v15n215) rfl (by kernel_rfl) (by kernel_rfl) (by kernel_rfl) (fun _ _ _ h => h) (Or.inl ⟨by rfl, ?hy15n215⟩) (by assumption) ?rest15n215
        case hy15n215 => (intro w hSw; (try dsimp only at hSw); go_simp; try with_reducible rfl)
        (try simp only [Act.put, List.setIfInBounds_toArray, List.set_cons_zero, List.set_cons_succ])
        refine wpAnyH_ready (rs := [14, 16]) (by kernel_rfl) (by simp) ?_
        refine cons_l rfl (fun K hK => ?_) (cons_l rfl (fun K hK => ?_) AllReadyH.nil)
        · go_simp
          refine hK.out _ _ c3 (fun hHeld => ?_)
          clear hK K
          (try simp only [Act.put, List.setIfInBounds_toArray, List.set_cons_zero, List.set_cons_succ])
          refine wpAnyH_ready (rs := [16]) (by kernel_rfl) (by simp) ?_
          refine cons_l rfl (fun K hK => ?_) AllReadyH.nil
          go_simp
          refine hK.out _ _ c3a (fun hHeld => ?_)
          clear hK K
          (try simp only [Act.put, List.setIfInBounds_toArray, List.set_cons_zero, List.set_cons_succ])
          refine wpAnyH_ready (rs := [17]) (by kernel_rfl) (by simp) ?_
          refine cons_l rfl (fun K hK => ?_) AllReadyH.nil
          refine step_append_cells (w0 := U) X.heap.size (by rfl) (.tmp 106) (.tmp 108) 33 56 (.agg #[.int .i64 0, .int .i64 0, .int .i64 0, .int .i64 0, .int .u64 0, .int .u64 0, .int .i64 0, .slice none 0 0, .slice none 0 0]) 9 104 rfl Try.underlying33 info56 rfl (by decide) (by decide) (sv) (tsAt i lw).length ((tsAt i lw).flatMap sampleCells) (sampleCells T) rfl rfl rfl (sample_one T) (show U.drew.ownsRow X.heap.size 56 9 (sv) ((tsAt i lw).length) (((tsAt i lw).flatMap sampleCells)) from HOW.out) (Below.refl X.heap.size U).drew (show X.heap.size ≤ U.drew.heap.size from HSZ.out) HL0.out ?_
          intro v2 G1 hown2 hb2' hg2 hat2
          have hnb := (hg2.block b (blk_lt HNB.out) (fun e => (HSV.out _ e.symm).1 rfl)).trans HNB.out
          have hnr := (hg2.block r (blk_lt HNR.out) (fun e => (HSV.out _ e.symm).2.1 rfl)).trans HNR.out
          have hns := (hg2.block wr.heap.size (blk_lt HNS.out) (fun e => (HSV.out _ e.symm).2.2 rfl)).trans HNS.out
          have c4 : G1.cell? ⟨b, 3, none⟩ = some (.slice (some ⟨r, 0, none⟩) 1 c) ∧ G1.cell? ⟨wr.heap.size, 0, none⟩ = some (.int .i64 T) ∧ G1.cell? ⟨wr.heap.size, 1, none⟩ = some (.int .i64 0) ∧ G1.cell? ⟨wr.heap.size, 2, none⟩ = some (.int .i64 0) ∧ G1.cell? ⟨wr.heap.size, 3, none⟩ = some (.int .i64 (-524288)) ∧ G1.cell? ⟨wr.heap.size, 4, none⟩ = some (.int .u64 0) ∧ G1.cell? ⟨wr.heap.size, 5, none⟩ = some (.int .u64 0) ∧ G1.cell? ⟨wr.heap.size, 6, none⟩ = some (.int .i64 0) ∧ G1.cell? ⟨wr.heap.size, 7, none⟩ = some (.slice none 0 0) ∧ G1.cell? ⟨wr.heap.size, 8, none⟩ = some (.slice none 0 0) := ⟨blk_cell hnb 3, blk_cell hns 0, blk_cell hns 1, blk_cell hns 2, blk_cell hns 3, blk_cell hns 4, blk_cell hns 5, blk_cell hns 6, blk_cell hns 7, blk_cell hns 8⟩
          have r1' : G1.cell? ⟨r, 1, none⟩ = some (sv) := (blk_cell hnr 1).trans HC1.out
          have z1' : G1.frozen? ⟨r, 1, none⟩ = false := blk_frozen hnr 1
          obtain ⟨A2, c2', rfl⟩ := own_slice hown2
          have e1 : r ≠ b := HNE.out.1
          have e2 : r ≠ wr.heap.size := HNE.out.2
          have c5 : (G1.setCell ⟨r, 1, none⟩ (.slice A2 ((tsAt i lw).length + 1) c2')).cell? ⟨b, 3, none⟩ = some (.slice (some ⟨r, 0, none⟩) 1 c) ∧ (G1.setCell ⟨r, 1, none⟩ (.slice A2 ((tsAt i lw).length + 1) c2')).cell? ⟨wr.heap.size, 0, none⟩ = some (.int .i64 T) ∧ (G1.setCell ⟨r, 1, none⟩ (.slice A2 ((tsAt i lw).length + 1) c2')).cell? ⟨wr.heap.size, 1, none⟩ = some (.int .i64 0) ∧ (G1.setCell ⟨r, 1, none⟩ (.slice A2 ((tsAt i lw).length + 1) c2')).cell? ⟨wr.heap.size, 2, none⟩ = some (.int .i64 0) ∧ (G1.setCell ⟨r, 1, none⟩ (.slice A2 ((tsAt i lw).length + 1) c2')).cell? ⟨wr.heap.size, 3, none⟩ = some (.int .i64 (-524288)) ∧ (G1.setCell ⟨r, 1, none⟩ (.slice A2 ((tsAt i lw).length + 1) c2')).cell? ⟨wr.heap.size, 4, none⟩ = some (.int .u64 0) ∧ (G1.setCell ⟨r, 1, none⟩ (.slice A2 ((tsAt i lw).length + 1) c2')).cell? ⟨wr.heap.size, 5, none⟩ = some (.int .u64 0) ∧ (G1.setCell ⟨r, 1, none⟩ (.slice A2 ((tsAt i lw).length + 1) c2')).cell? ⟨wr.heap.size, 6, none⟩ = some (.int .i64 0) ∧ (G1.setCell ⟨r, 1, none⟩ (.slice A2 ((tsAt i lw).length + 1) c2')).cell? ⟨wr.heap.size, 7, none⟩ = some (.slice none 0 0) ∧ (G1.setCell ⟨r, 1, none⟩ (.slice A2 ((tsAt i lw).length + 1) c2')).cell? ⟨wr.heap.size, 8, none⟩ = some (.slice none 0 0) := ⟨(World.cell?_setCell_far _ _ _ _ e1).trans c4.1, (World.cell?_setCell_far _ _ _ _ e2).trans c4.2.1, (World.cell?_setCell_far _ _ _ _ e2).trans c4.2.2.1, (World.cell?_setCell_far _ _ _ _ e2).trans c4.2.2.2.1, (World.cell?_setCell_far _ _ _ _ e2).trans c4.2.2.2.2.1, (World.cell?_setCell_far _ _ _ _ e2).trans c4.2.2.2.2.2.1, (World.cell?_setCell_far _ _ _ _ e2).trans c4.2.2.2.2.2.2.1, (World.cell?_setCell_far _ _ _ _ e2).trans c4.2.2.2.2.2.2.2.1, (World.cell?_setCell_far _ _ _ _ e2).trans c4.2.2.2.2.2.2.2.2.1, (World.cell?_setCell_far _ _ _ _ e2).trans c4.2.2.2.2.2.2.2.2.2⟩
          have HO2 := Aside0.mk hown2
          have HG2 := Aside0.mk hg2
          have HAT2 := Aside0.mk hat2
          have HNR2 := Aside0.mk hnr
          have HNB2 := Aside0.mk hnb
          clear hown2 hg2 hat2 hnb hnr hns hb2' e1 e2
          refine hK.out _ _ c4 (fun hHeld => ?_)
          clear hK K
          (try simp only [Act.put, List.setIfInBounds_toArray, List.set_cons_zero, List.set_cons_succ])
          refine take_l (i := 18) (v := ?v18n216) rfl (by kernel_rfl) (by kernel_rfl) (by kernel_rfl) (fun _ _ _ h => h) (Or.inl ⟨by rfl, ?hy18n216⟩) (by assumption) ?rest18n216
          case hy18n216 => (intro w hSw; (try dsimp only at hSw); go_simp; try with_reducible rfl)
          (try simp only [Act.put, List.setIfInBounds_toArray, List.set_cons_zero, List.set_cons_succ])
          refine take_l (i := 19) (v := ?v19n217) rfl (by kernel_rfl) (by kernel_rfl) (by kernel_rfl) (fun _ _ _ h => h) (Or.inl ⟨by rfl, ?hy19n217⟩) (by assumption) ?rest19n217
          case hy19n217 => (intro w hSw; (try dsimp only at hSw); go_simp; try with_reducible rfl)
          (try simp only [Act.put, List.setIfInBounds_toArray, List.set_cons_zero, List.set_cons_succ])
          refine wpAnyH_ready (rs := [20]) (by kernel_rfl) (by simp) ?_
          refine cons_l rfl (fun K hK => ?_) AllReadyH.nil
          go_simp
          refine hK.out _ _ c5 (fun hHeld => ?_)
          clear hK K
          (try simp only [Act.put, List.setIfInBounds_toArray, List.set_cons_zero, List.set_cons_succ])
          refine wpAnyH_done (by kernel_rfl) ?_ _
          refine NoPanic.normal ?_
          go_wp2
          go_roundg qq
          case measure => omega
          case rel =>
            obtain ⟨hk3, hbk⟩ := blk_put_sample (ts := tsAt i lw) (Sx := S lw) HNB.out HNR.out HC0.out HC1.out HSB.out HSR.out HSV0.out HNE.out.1 (fun k hk => ⟨(HSV.out k hk).1, (HSV.out k hk).2.1⟩) HO2.out HG2.out HAT2.out
            obtain ⟨S', hS⟩ := close_old HMD.out HMS.out HBWU.out hk3 HSR.out HSV0.out hbk
            rw [show (fun x => if x = lw then tsAt i x ++ [T] else tsAt i x) = tsAt (i + 1) from funext fun x => (HTS.out x).symm] at hS
            exact ⟨i + 1, n, m, S', by go_num, by have := HIK.out; omega, by omega, hS⟩
        · go_simp
          refine hK.out _ _ c3a (fun hHeld => ?_)
          clear hK K
          (try simp only [Act.put, List.setIfInBounds_toArray, List.set_cons_zero, List.set_cons_succ])
          refine wpAnyH_ready (rs := [14]) (by kernel_rfl) (by simp) ?_
          refine cons_l rfl (fun K hK => ?_) AllReadyH.nil
          go_simp
          refine hK.out _ _ c3a (fun hHeld => ?_)
          clear hK K
          (try simp only [Act.put, List.setIfInBounds_toArray, List.set_cons_zero, List.set_cons_succ])
          refine wpAnyH_ready (rs := [17]) (by kernel_rfl) (by simp) ?_
          refine cons_l rfl (fun K hK => ?_) AllReadyH.nil
          refine step_append_cells (w0 := U) X.heap.size (by rfl) (.tmp 106) (.tmp 108) 33 56 (.agg #[.int .i64 0, .int .i64 0, .int .i64 0, .int .i64 0, .int .u64 0, .int .u64 0, .int .i64 0, .slice none 0 0, .slice none 0 0]) 9 104 rfl Try.underlying33 info56 rfl (by decide) (by decide) (sv) (tsAt i lw).length ((tsAt i lw).flatMap sampleCells) (sampleCells T) rfl rfl rfl (sample_one T) (show U.drew.ownsRow X.heap.size 56 9 (sv) ((tsAt i lw).length) (((tsAt i lw).flatMap sampleCells)) from HOW.out) (Below.refl X.heap.size U).drew (show X.heap.size ≤ U.drew.heap.size from HSZ.out) HL0.out ?_
          intro v2 G1 hown2 hb2' hg2 hat2
          have hnb := (hg2.block b (blk_lt HNB.out) (fun e => (HSV.out _ e.symm).1 rfl)).trans HNB.out
          have hnr := (hg2.block r (blk_lt HNR.out) (fun e => (HSV.out _ e.symm).2.1 rfl)).trans HNR.out
          have hns := (hg2.block wr.heap.size (blk_lt HNS.out) (fun e => (HSV.out _ e.symm).2.2 rfl)).trans HNS.out
          have c4 : G1.cell? ⟨b, 3, none⟩ = some (.slice (some ⟨r, 0, none⟩) 1 c) ∧ G1.cell? ⟨wr.heap.size, 0, none⟩ = some (.int .i64 T) ∧ G1.cell? ⟨wr.heap.size, 1, none⟩ = some (.int .i64 0) ∧ G1.cell? ⟨wr.heap.size, 2, none⟩ = some (.int .i64 0) ∧ G1.cell? ⟨wr.heap.size, 3, none⟩ = some (.int .i64 (-524288)) ∧ G1.cell? ⟨wr.heap.size, 4, none⟩ = some (.int .u64 0) ∧ G1.cell? ⟨wr.heap.size, 5, none⟩ = some (.int .u64 0) ∧ G1.cell? ⟨wr.heap.size, 6, none⟩ = some (.int .i64 0) ∧ G1.cell? ⟨wr.heap.size, 7, none⟩ = some (.slice none 0 0) ∧ G1.cell? ⟨wr.heap.size, 8, none⟩ = some (.slice none 0 0) := ⟨blk_cell hnb 3, blk_cell hns 0, blk_cell hns 1, blk_cell hns 2, blk_cell hns 3, blk_cell hns 4, blk_cell hns 5, blk_cell hns 6, blk_cell hns 7, blk_cell hns 8⟩
          have r1' : G1.cell? ⟨r, 1, none⟩ = some (sv) := (blk_cell hnr 1).trans HC1.out
          have z1' : G1.frozen? ⟨r, 1, none⟩ = false := blk_frozen hnr 1
          obtain ⟨A2, c2', rfl⟩ := own_slice hown2
          have e1 : r ≠ b := HNE.out.1
          have e2 : r ≠ wr.heap.size := HNE.out.2
          have c5 : (G1.setCell ⟨r, 1, none⟩ (.slice A2 ((tsAt i lw).length + 1) c2')).cell? ⟨b, 3, none⟩ = some (.slice (some ⟨r, 0, none⟩) 1 c) ∧ (G1.setCell ⟨r, 1, none⟩ (.slice A2 ((tsAt i lw).length + 1) c2')).cell? ⟨wr.heap.size, 0, none⟩ = some (.int .i64 T) ∧ (G1.setCell ⟨r, 1, none⟩ (.slice A2 ((tsAt i lw).length + 1) c2')).cell? ⟨wr.heap.size, 1, none⟩ = some (.int .i64 0) ∧ (G1.setCell ⟨r, 1, none⟩ (.slice A2 ((tsAt i lw).length + 1) c2')).cell? ⟨wr.heap.size, 2, none⟩ = some (.int .i64 0) ∧ (G1.setCell ⟨r, 1, none⟩ (.slice A2 ((tsAt i lw).length + 1) c2')).cell? ⟨wr.heap.size, 3, none⟩ = some (.int .i64 (-524288)) ∧ (G1.setCell ⟨r, 1, none⟩ (.slice A2 ((tsAt i lw).length + 1) c2')).cell? ⟨wr.heap.size, 4, none⟩ = some (.int .u64 0) ∧ (G1.setCell ⟨r, 1, none⟩ (.slice A2 ((tsAt i lw).length + 1) c2')).cell? ⟨wr.heap.size, 5, none⟩ = some (.int .u64 0) ∧ (G1.setCell ⟨r, 1, none⟩ (.slice A2 ((tsAt i lw).length + 1) c2')).cell? ⟨wr.heap.size, 6, none⟩ = some (.int .i64 0) ∧ (G1.setCell ⟨r, 1, none⟩ (.slice A2 ((tsAt i lw).length + 1) c2')).cell? ⟨wr.heap.size, 7, none⟩ = some (.slice none 0 0) ∧ (G1.setCell ⟨r, 1, none⟩ (.slice A2 ((tsAt i lw).length + 1) c2')).cell? ⟨wr.heap.size, 8, none⟩ = some (.slice none 0 0) := ⟨(World.cell?_setCell_far _ _ _ _ e1).trans c4.1, (World.cell?_setCell_far _ _ _ _ e2).trans c4.2.1, (World.cell?_setCell_far _ _ _ _ e2).trans c4.2.2.1, (World.cell?_setCell_far _ _ _ _ e2).trans c4.2.2.2.1, (World.cell?_setCell_far _ _ _ _ e2).trans c4.2.2.2.2.1, (World.cell?_setCell_far _ _ _ _ e2).trans c4.2.2.2.2.2.1, (World.cell?_setCell_far _ _ _ _ e2).trans c4.2.2.2.2.2.2.1, (World.cell?_setCell_far _ _ _ _ e2).trans c4.2.2.2.2.2.2.2.1, (World.cell?_setCell_far _ _ _ _ e2).trans c4.2.2.2.2.2.2.2.2.1, (World.cell?_setCell_far _ _ _ _ e2).trans c4.2.2.2.2.2.2.2.2.2⟩
          have HO2 := Aside0.mk hown2
          have HG2 := Aside0.mk hg2
          have HAT2 := Aside0.mk hat2
          have HNR2 := Aside0.mk hnr
          have HNB2 := Aside0.mk hnb
          clear hown2 hg2 hat2 hnb hnr hns hb2' e1 e2
          refine hK.out _ _ c4 (fun hHeld => ?_)
          clear hK K
          (try simp only [Act.put, List.setIfInBounds_toArray, List.set_cons_zero, List.set_cons_succ])
          refine take_l (i := 18) (v := ?v18n218) rfl (by kernel_rfl) (by kernel_rfl) (by kernel_rfl) (fun _ _ _ h => h) (Or.inl ⟨by rfl, ?hy18n218⟩) (by assumption) ?rest18n218
          case hy18n218 => (intro w hSw; (try dsimp only at hSw); go_simp; try with_reducible rfl)
          (try simp only [Act.put, List.setIfInBounds_toArray, List.set_cons_zero, List.set_cons_succ])
          refine take_l (i := 19) (v := ?v19n219) rfl (by kernel_rfl) (by kernel_rfl) (by kernel_rfl) (fun _ _ _ h => h) (Or.inl ⟨by rfl, ?hy19n219⟩) (by assumption) ?rest19n219
          case hy19n219 => (intro w hSw; (try dsimp only at hSw); go_simp; try with_reducible rfl)
          (try simp only [Act.put, List.setIfInBounds_toArray, List.set_cons_zero, List.set_cons_succ])
          refine wpAnyH_ready (rs := [20]) (by kernel_rfl) (by simp) ?_
          refine cons_l rfl (fun K hK => ?_) AllReadyH.nil
          go_simp
          refine hK.out _ _ c5 (fun hHeld => ?_)
          clear hK K
          (try simp only [Act.put, List.setIfInBounds_toArray, List.set_cons_zero, List.set_cons_succ])
          refine wpAnyH_done (by kernel_rfl) ?_ _
          refine NoPanic.normal ?_
          go_wp2
          go_roundg qq
          case measure => omega
          case rel =>
            obtain ⟨hk3, hbk⟩ := blk_put_sample (ts := tsAt i lw) (Sx := S lw) HNB.out HNR.out HC0.out HC1.out HSB.out HSR.out HSV0.out HNE.out.1 (fun k hk => ⟨(HSV.out k hk).1, (HSV.out k hk).2.1⟩) HO2.out HG2.out HAT2.out
            obtain ⟨S', hS⟩ := close_old HMD.out HMS.out HBWU.out hk3 HSR.out HSV0.out hbk
            rw [show (fun x => if x = lw then tsAt i x ++ [T] else tsAt i x) = tsAt (i + 1) from funext fun x => (HTS.out x).symm] at hS
            exact ⟨i + 1, n, m, S', by go_num, by have := HIK.out; omega, by omega, hS⟩

end Go.Proofs.Ytieoilnkfnlbaaa
