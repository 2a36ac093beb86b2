/- Bytes put behind a file's (2): a new file. -/
import Derived.Test.YtolpgajodhondaaD9
namespace Go.Proofs.Ytolpgajodhondaa
open Go.RowKit Go.Maps Go.Sort Go.WideMaps Go.Proofs.YtolpgajodhondaaW.PrintWords

set_option maxHeartbeats 4000000 in
set_option maxRecDepth 100000 in
/-- A new file. -/
theorem append_none (w : World) (S : Nat → Prop) (d nb sb N L : Nat) (B : Disk) (s : ByteArray) (b : List UInt8) (P : Option Addr) (c : Nat) (hs : s.size ≤ maxLen) (hN : N < maxLen) (hNL : N * L ≤ 4611686018427387903) (hL : L + b.length ≤ 1152921504606) (hr : ReadsInt w .u8 P b.length (ints b))
    (hst : Calls Try.prog 24 #[.pointer (some ⟨d, 0, none⟩)] w fun e w' => e = .returned (.int .i64 0) ∧ DiskIn w' S d nb sb N L B ∧ Keeps S w w' ∧ w'.heap.size = w.heap.size) (hm : B.names s.data.toList = none) (hPS : ∀ a, P = some a → ¬ S a.block) :
    Calls Try.prog 8 #[.pointer (some ⟨d, 0, none⟩), .string s, .slice P b.length c] w (AppendPost w S d nb sb N L (B, 0) s b) := by
  have HR := Aside0.mk hr
  have hbl := Nat.le_trans (Nat.le_add_left b.length L) hL
  have HP := Aside0.mk hPS
  clear hr hPS
  go_enter Try.func8, Try.ntmps8
  go_wp2_with fail
  refine hst.mono ?_
  rintro e w1 ⟨rfl, hin, hk, hsz⟩
  have HI := Aside0.mk hin
  have HK := Aside0.mk hk
  have HZ := Aside0.mk hsz
  have c1 : w1.cell? ⟨d, 1, none⟩ = some (.map (some nb)) := hin.cells.1 1
  have hl := hin.names.look s hs
  clear hk hsz hin hst
  rw [hm, ptr_none] at hl
  have HM := Aside0.mk hm
  clear hm
  go_wp2_with fail
  refine (name_full s w1).mono ?_
  rintro e w2 ⟨ok, rfl, hok, hb⟩
  have HOK := Aside0.mk hok
  have HI2 := Aside0.mk (HI.out.beside hb)
  have HB12 := Aside0.mk hb
  have HK2 := Aside0.mk (HK.out.trans (Keeps.of_new (S := fun _ => False) hb) (fun i hi => hi.elim))
  clear hl hb hok c1
  cases ok with
  | false =>
    go_wp2
    go_ret
    refine ⟨false, false, w.heap.size, HOK.out, fun _ _ => rfl, Nat.le_refl _, ?_⟩
    exact ⟨rfl, more_keep (HI2.out.mono (Nat.le_succ _) (Nat.le_add_right _ _)), HK2.out⟩
  | true =>
    obtain ⟨D, hD⟩ := HI2.out.namesAre
    have hU := usedOf_le HI2.out hD
    obtain ⟨T, fw, k0, k1, klen, kused, kb, ⟨x0, hx0⟩⟩ := later_family w2 S d nb sb N L B D hNL HI2.out hD
    have hsz := hD.own.size_le
    generalize usedOf D B = U at *
    generalize Maps.size D = C at *
    clear hD
    haveI : Nonempty T := ⟨x0⟩
    have KU := Aside0.mk kused
    have KB := Aside0.mk kb
    have KX := Aside0.mk hx0
    clear kused kb hx0
    have hwr : IntKind.i64.wrap ((U : Int) + (b.length : Int)) = (U : Int) + (b.length : Int) := IntWalk.i64_in _ (by omega)
    go_upto_region 7 with fail
    go_cut [24] (fun s24 wx => s24 = .bool (decide (B.room < (U : Int) + (b.length : Int)) || decide ((256 : Int) ≤ (C : Int))) ∧ Below w2.heap.size w2 wx)
    case first =>
      by_cases hbig : B.room < (U : Int) + (b.length : Int)
      · have hbg : decide (B.room < (U : Int) + (b.length : Int)) = true := decide_eq_true hbig
        clear hbig
        refine wp_region_family fw (by kernel_rfl) (by kernel_rfl) ⟨x0, KX.out⟩ ?_
        repeat (first | go_big_quiet_step ((go_at_call 22; exact KU.out _)) | quiet_step (fail))
        refine wpQuiet_nil ?_
        rintro w' ⟨x, rfl⟩
        go_wp2
        go_meet
        exact ⟨by rw [hbg]; rfl, KB.out x⟩
      · have hbg : decide (B.room < (U : Int) + (b.length : Int)) = false := decide_eq_false hbig
        clear hbig
        by_cases hbig : (256 : Int) ≤ (C : Int)
        all_goals
          first | have hbc : decide ((256 : Int) ≤ (C : Int)) = true := decide_eq_true hbig | have hbc : decide ((256 : Int) ≤ (C : Int)) = false := decide_eq_false hbig
          clear hbig
          refine wp_region_family fw (by kernel_rfl) (by kernel_rfl) ⟨x0, KX.out⟩ ?_
          repeat (first | go_big_quiet_step ((go_at_call 22; exact KU.out _)) | quiet_step (fail))
          refine wpQuiet_nil ?_
          rintro w' ⟨x, rfl⟩
          go_wp2
          go_meet
          exact ⟨by rw [hbg, hbc]; rfl, KB.out x⟩
    case rest =>
      obtain ⟨rfl, hbc⟩ := hcut
      clear hwr k0 k1 klen
      have HI3 := Aside0.mk (HI2.out.beside hbc)
      have HK3 := Aside0.mk (HK2.out.trans (Keeps.of_new (S := fun _ => False) hbc) (fun i hi => hi.elim))
      clear hbc
      have hnf : (N * L + b.length : Nat) ≤ B.room → N < 256 → (decide (B.room < (U : Int) + (b.length : Int)) || decide ((256 : Int) ≤ (C : Int))) = false := fun h h' => by
        rw [decide_eq_false (by omega), decide_eq_false (by omega)]; rfl
      have HNF := Aside0.mk hnf
      clear hnf
      cases hq : (decide (B.room < (U : Int) + (b.length : Int)) || decide ((256 : Int) ≤ (C : Int))) with
      | true =>
        rw [hq] at HNF
        clear hq
        go_wp2
        go_ret
        refine ⟨true, true, w.heap.size, fun _ => rfl, fun h h' => HNF.out h h', Nat.le_refl _, ?_⟩
        exact ⟨rfl, more_keep (HI3.out.mono (Nat.le_succ _) (Nat.le_add_right _ _)), HK3.out⟩
      | false =>
        clear hq
        have hnm := (HI3.out.names.keep (w' := wc.alloc (.cells #[.slice none 0 0, .int .i64 0] 60)) (Below.heap_alloc _ _ _ HI3.out.names.lt))
        have c1 : wc.cell? ⟨d, 1, none⟩ = some (.map (some nb)) := HI3.out.cells.1 1
        have hdw : d < wc.heap.size := blk_lt HI3.out.blk
        have HNM := Aside0.mk hnm
        clear hnm
        have hnbw : nb < wc.heap.size := HI3.out.names.lt
        have hg4 : ∀ w4, (wc.alloc (.cells #[.slice none 0 0, .int .i64 0] 60)).mapTurned w4 nb → w4.heap[wc.heap.size]? = some (.cells #[.slice none 0 0, .int .i64 0] 60 (0, 0)) := fun w4 ht4 =>
          (mapTurned_other ht4 wc.heap.size (by omega) (by simp)).trans (heap_alloc_new wc _)
        have HG4 := Aside0.mk hg4
        clear hg4
        go_wp2_with (at_mapUpdate; refine wpList_store_map _ rfl _ _ _ rfl nb N _ rfl HNM.out hN s hs rfl wc.heap.size rfl ?_; intro w4 hm4 ht4; have c4 := blk_cell (HG4.out w4 ht4) 0; simp only [List.getElem?_toArray, List.getElem?_cons_zero] at c4; have HM4 := Aside0.mk hm4; have HT4 := Aside0.mk ht4; clear hm4 ht4)
        refine (clone_any _ (fun _ => False) _ [] (.inl ⟨rfl, rfl⟩) (by simp)).mono ?_
        rintro e w5 ⟨v', rfl, hown, hb5⟩
        have hs4 : w4.heap.size = wc.heap.size + 1 := by rw [mapTurned_size HT4.out]; simp
        have HS4 := Aside0.mk hs4
        have HB5 := Aside0.mk hb5
        have HO5 := Aside0.mk hown
        have HK4 := Aside0.mk ((HK3.out.alloc (.cells #[.slice none 0 0, .int .i64 0] 60)).turned HT4.out (.inl HI3.out.sn))
        have HR5 := Aside0.mk ((ReadsInt.keeps HR.out HK4.out HP.out).below hb5)
        have HL5 := Aside0.mk hb5.size
        have hgw : wc.heap.size < w4.heap.size := by omega
        have HGW := Aside0.mk hgw
        have f6 : ∀ w6, Below w4.heap.size w5 w6 → w6.heap[wc.heap.size]? = some (.cells #[.slice none 0 0, .int .i64 0] 60 (0, 0)) := fun w6 h6 =>
          ((h6.block _ HGW.out).trans (HB5.out.block _ HGW.out)).trans (HG4.out w4 HT4.out)
        have HF6 := Aside0.mk f6
        clear hb5 hown f6 hs4 hgw hnbw hdw
        go_wp2_with (at_builtin; refine print_append_row (w0 := w5) w4.heap.size rfl (.tmp 63) (.tmp 64) 31 5 .u8 1 rfl Try.underlying31 info5 (by decide) v' (ints []) (ints b) P b.length c rfl rfl (by rw [ints_length]; exact HO5.out) HR5.out (Below.refl _ _) HL5.out (by simp [ints]; omega) ?_; intro v1 w6 hown6 hb6 hg6 hat6; obtain ⟨A1, cA, rfl⟩ := own_slice hown6; have cc6 := blk_cell (HF6.out w6 hb6) 0; simp only [List.getElem?_toArray, List.getElem?_cons_zero] at cc6; have ff6 := blk_frozen (HF6.out w6 hb6) 0; have HO6 := Aside0.mk hown6; have HB6 := Aside0.mk hb6; clear hown6 hb6 hg6 hat6)
        go_ret
        have hs4 := HS4.out
        have hs5 := HL5.out
        have hs6 := HB6.out.size
        have hww : w.heap.size ≤ wc.heap.size := HK3.out.size
        rw [← List.length_append]
        generalize hv : Value.slice A1 (ints [] ++ ints b).length cA = vv
        have h46 : ∀ k, k < w4.heap.size → k ≠ wc.heap.size → (w6.setCell ⟨wc.heap.size, 0, none⟩ vv).heap[k]? = w4.heap[k]? := fun k hk hn => by
          rw [Below.heap_setCell _ _ _ _ (by exact hn), HB6.out.block k hk, HB5.out.block k hk]
        have hch : ∀ k, k < wc.heap.size → k ≠ nb → (w6.setCell ⟨wc.heap.size, 0, none⟩ vv).heap[k]? = wc.heap[k]? := fun k hk hn => by
          rw [h46 k (by omega) (by omega), mapTurned_other HT4.out k hn (by simp; omega), Below.heap_alloc _ _ _ hk]
        have hg6 : w6.heap[wc.heap.size]? = some (.cells #[.slice none 0 0, .int .i64 0] 60 (0, 0)) := HF6.out w6 HB6.out
        have hby : BytesAt w6 (fun k => w4.heap.size ≤ k) vv b := by
          rw [← hv]
          exact BytesAt.of_own (base := w4.heap.size) (by have := HO6.out; rw [← ints_append] at this ⊢; simpa [ints_length] using this) (fun k hk => own_base HO6.out k hk)
        have hnr : ∀ f, B.refs f → f < wc.heap.size := fun f hf => by
          obtain ⟨_, v, h2, _⟩ := HI3.out.files f hf
          exact blk_lt h2
        refine ⟨true, false, wc.heap.size, fun _ => rfl, fun _ _ => rfl, hww, ?_⟩
        have e1 : B.append1 true false wc.heap.size s.data.toList b = ({ B.setFile wc.heap.size (b, 0) with names := upd B.names s.data.toList (some wc.heap.size) }, 0) := by unfold Disk.append1; simp [HM.out]
        simp only [ne_eq, not_true_eq_false, if_false, e1]
        have hnb := HI3.out.names.lt
        refine ⟨rfl, ⟨.inl HI3.out.sd, .inl HI3.out.sn, .inl HI3.out.ss, HI3.out.ne, (hch d (blk_lt HI3.out.blk) HI3.out.d_ne_n).trans HI3.out.blk, HM4.out.keep (h46 nb (by omega) (by omega)), (HI3.out.sure.keep (hch sb HI3.out.sure.lt (Ne.symm HI3.out.ne))).mono (Nat.le_succ _), fun f hf => ?_⟩, ?_⟩
        · by_cases hfg : f = wc.heap.size
          · subst hfg
            show FileAt _ _ _ _ (if wc.heap.size = wc.heap.size then (b, 0) else B.file wc.heap.size)
            rw [if_pos rfl]
            refine ⟨.inr hww, vv, blk_put hg6 0 _ rfl, hby.keep (fun k hk _ => Below.heap_setCell _ _ _ _ (by show k ≠ wc.heap.size; omega)) (fun k hk => .inr (by omega)), Nat.zero_le _, Nat.le_add_left _ _⟩
          · have hfr : B.refs f := by
              obtain ⟨k, hk | hk⟩ := hf
              · simp only [upd] at hk
                split at hk
                · exact absurd (Option.some.inj hk).symm hfg
                · exact ⟨k, .inl hk⟩
              · exact ⟨k, .inr hk⟩
            show FileAt _ _ _ _ (if f = wc.heap.size then (b, 0) else B.file f)
            rw [if_neg hfg]
            have hF := HI3.out.files f hfr
            exact ((hF.apart (hF.ne_map HI3.out.names) HI3.out.names.not5).keep (fun k hk hl => hch k hl hk.2) (fun k hk => .inl hk.1)).mono (Nat.le_add_right _ _)
        · exact ((HK4.out.trans (Keeps.of_new (S := fun _ => False) HB5.out) (fun i hi => hi.elim)).trans (Keeps.of_below (S := fun k => w4.heap.size ≤ k) HB6.out (fun k h1 _ => h1)) (fun i hi => .inr (by omega))).setCell (.inr hww) _
end Go.Proofs.Ytolpgajodhondaa
