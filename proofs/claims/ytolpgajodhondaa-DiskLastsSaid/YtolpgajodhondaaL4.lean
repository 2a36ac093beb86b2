/- DiskLasts: the walk. -/
import Derived.Test.YtolpgajodhondaaL3
import Derived.Test.YtolpgajodhondaaR15
namespace Go.Proofs.Ytolpgajodhondaa
open Go.RowKit Go.Maps Go.Sort Go.WideMaps Go.Proofs.YtolpgajodhondaaW.PrintWords

set_option maxHeartbeats 4000000 in
set_option maxRecDepth 100000 in
theorem diskLasts_any (w : World) (b : ByteArray) (vo : Value) (no : Nat) (fuse : Int) (vk vc : Value) (cut : List Nat) (_hb0 : b.size ≤ maxLen) (hf0 : 0 ≤ fuse ∧ fuse ≤ 255) (ho : OpsRow w vo no) (hvk : RowOf w vk fun u => ∃ b, u = .bool b) (hvc : CutRow w vc cut) :
    Calls Try.prog 3 #[.string b, vo, .int .u8 fuse, vk, vc] w fun e w' => e = .returned (.bool true) ∧ Below w.heap.size w w' := by
  obtain ⟨P, c, rfl, hno, hrow⟩ := ho
  obtain ⟨kP, kn, kc, rfl, hkr⟩ := hvk
  obtain ⟨cP, cc, rfl, hcr⟩ := hvc
  have HROW := Aside0.mk hrow
  have HVK : Aside0 (RowOf w (.slice kP kn kc) fun u => ∃ b, u = .bool b) := ⟨⟨kP, kn, kc, rfl, hkr⟩⟩
  have HVC : Aside0 (CutRow w (.slice cP cut.length cc) cut) := ⟨⟨cP, cc, rfl, hcr⟩⟩
  clear hrow hkr hcr
  have hfw : IntKind.i64.wrap fuse = fuse := IntWalk.i64_in _ (by omega)
  have kb := fun W => print_bytes (P := Try.prog) 9 31 5 Try.underlying9 Try.underlying31 Try.underlying5 b W
  go_enter Try.func3, Try.ntmps3
  go_wp2_with fail
  refine (now_new w 1048576 (by decide) (by decide)).mono ?_
  rintro e w1 ⟨d, rfl, h1, hb1⟩
  have H1 := Aside0.mk h1
  have HB1 := Aside0.mk hb1
  clear h1 hb1
  by_cases hbad : 500 < b.size ∨ 100 < no
  · have hw : ∃ x y : Bool, decide ((500 : Int) < (b.size : Int)) = x ∧ decide ((100 : Int) < (no : Int)) = y ∧ (x = true ∨ x = false ∧ y = true) := by
      by_cases h5 : 500 < b.size
      · exact ⟨true, _, decide_eq_true (by omega), rfl, .inl rfl⟩
      · exact ⟨false, true, decide_eq_false (by omega), decide_eq_true (by omega), .inr ⟨rfl, rfl⟩⟩
    obtain ⟨x, y, hx, hy, hxy⟩ := hw
    clear hbad
    rcases hxy with rfl | ⟨rfl, rfl⟩
    all_goals
      go_wp2_with (go_at_call 7; refine (awake_any _).mono ?_; rintro e w2 ⟨rfl, hb2⟩; have HB2 := Aside0.mk (HB1.out.trans (hb2.mono HB1.out.size)); clear hb2)
      go_ret
      exact ⟨rfl, HB2.out⟩
  · have hx : decide ((500 : Int) < (b.size : Int)) = false := decide_eq_false (by omega)
    have hy : decide ((100 : Int) < (no : Int)) = false := decide_eq_false (by omega)
    have hbs : b.size ≤ 500 := by omega
    have hn1 : no ≤ 100 := by omega
    clear hbad
    have hl : b.data.toList.length = b.size := by rw [Array.length_toList]; rfl
    have hw2 : ∃ w2, w2 = Lib.bytesWorld w1 5 b := ⟨_, rfl⟩
    obtain ⟨w2, hw2⟩ := hw2
    replace kb := kb w1
    rw [← hw2] at kb
    have hb12 : Below w1.heap.size w1 w2 := hw2 ▸ bytes_below (Below.refl _ _) (Nat.le_refl _) 5 b
    have hr2 := bytes_reads w1 5 b (by omega)
    rw [bytesOf_ints, ← hw2, ← hl] at hr2
    have hb2 : w.heap.size ≤ w2.heap.size := Nat.le_trans HB1.out.size hb12.size
    have happ := now_append (Q := fun A => OneK A sureK b.data.toList 0 false) (H1.out.beside hb12) hb2 sureB b.data.toList (by decide) (by decide) (by omega) (by decide) _ (grownCap w1 b.size 0 5) hr2 (fun a ha => by cases ha; exact Nat.le_refl _) (by rintro B rfl; exact ⟨rfl, by decide, by show ((0 * 0 + b.data.toList.length : Nat) : Int) ≤ 1048576; omega, fun g => ⟨fresh_appendK, rfl⟩⟩)
    rw [hl] at happ
    have HAPP := Aside0.mk happ
    have HB2 := Aside0.mk (HB1.out.trans (hb12.mono HB1.out.size))
    clear hr2 hb2 happ hw2 hb12
    go_wp2_with fail
    refine HAPP.out.mono ?_
    rintro e w3 ⟨v3, rfl, rfl, h3, hb3⟩
    have H3 := Aside0.mk h3
    have HB3 := Aside0.mk (HB2.out.trans hb3)
    clear h3 hb3 kb HAPP
    go_wp2_with fail
    refine (now_sync (Q := fun A => OneK A sureK b.data.toList b.data.toList.length false) (r := fun v => v = .int .i64 0) H3.out HB3.out.size sureB (by decide) (fun B hB => ⟨hB.sync.1, by rw [hB.sync.2]⟩)).mono ?_
    rintro e w4 ⟨v4, rfl, rfl, h4, hb4⟩
    have H4 := Aside0.mk h4
    have HB4 := Aside0.mk (HB3.out.trans hb4)
    clear h4 hb4
    go_wp2_with fail
    refine (now_syncNames (Q := fun A => OneK A sureK b.data.toList b.data.toList.length true) (r := fun v => v = .int .i64 0) H4.out HB4.out.size (fun B hB => ⟨hB.syncNames.1, by rw [hB.syncNames.2]⟩)).mono ?_
    rintro e w5 ⟨v5, rfl, rfl, h5, hb5⟩
    have H5 := Aside0.mk h5
    have HB5 := Aside0.mk (HB4.out.trans hb5)
    clear h5 hb5
    go_wp2_with fail
    refine (now_fuse (Q := fun A => Keeping A sureK b.size b.data.toList) H5.out HB5.out.size fuse (fun B hB => hl ▸ hB.keeping fuse)).mono ?_
    rintro e w6 ⟨v6, rfl, rfl, h6, hb6⟩
    have H6 := Aside0.mk h6
    have HB6 := Aside0.mk (HB5.out.trans hb6)
    clear h6 hb6
    go_wp2_with fail
    refine (ref_new w6 1048576).mono ?_
    rintro e w7 ⟨q, rfl, hq7, hb7⟩
    have hrel0 : LastRel w b d q 0 ⟨#[]⟩ w7 := by
      obtain ⟨A, hA, ht⟩ := Two.start (H6.out.mono (N' := 1) (L' := 500) (by decide) (by omega) (fun A h => h)) hq7 hb7
      have h66 := HB6.out.size
      exact ⟨_, _, A, ht, by rw [show ((⟨#[]⟩ : ByteArray).data.toList) = [] from rfl, List.append_nil]; exact hA, HB6.out.trans (hb7.mono HB6.out.size), fun k hk => by rcases hk with hk | hk <;> omega, Nat.zero_le _⟩
    have HREL0 := Aside0.mk hrel0
    clear hrel0 hq7 hb7 hx hy
    go_wp2_with fail
    go_loopg [13, 68] no (fun kq v13 v68 wr => ∃ (i : Nat) (more : ByteArray), v13 = .string more ∧ v68 = .int .i64 i ∧ i + kq = no ∧ LastRel w b d q i more wr)
    case atStart => exact ⟨0, ⟨#[]⟩, rfl, rfl, by omega, HREL0.out⟩
    case round =>
      obtain ⟨i, more, rfl, rfl, hik, hrel⟩ := hrel
      have HR := Aside0.mk hrel
      clear hrel
      cases gk with
      | zero =>
        have hlt : decide (i < no) = false := decide_eq_false (by omega)
        obtain ⟨Sd, Sq, A, ht, hkp, hbw, hlow, hmr⟩ := HR.out
        obtain ⟨nb, sb, hd⟩ := ht.disk
        have hlow' : ∀ k, Sd k → w.heap.size ≤ k := fun k hk => hlow k (.inl hk)
        have HD := Aside0.mk hd
        have HKP := Aside0.mk hkp
        have HBW := Aside0.mk hbw
        have hi100 : i ≤ 100 := by omega
        have hmr' : more.size ≤ 10000 := by omega
        clear ht hkp hbw hlow hlow' hmr hd hik HR HREL0
        go_wp2_with fail
        refine (crash_any wr Sd d nb sb _ _ A _ _ cut (by omega) (by omega) (HVK.out.below HBW.out) (HVC.out.below HBW.out) HD.out).mono ?_
        rintro e w8 ⟨o, nb8, sb8, ts, m, F, rfl, hd8, hk8, hb8⟩
        obtain ⟨g, cc, hm, hF, hc1, hc2⟩ := HKP.out.crash hk8
        have HD8 := Aside0.mk hd8
        have HB8 := Aside0.mk (HBW.out.trans (hb8.mono HBW.out.size))
        have HM := Aside0.mk hm
        have HF := Aside0.mk hF
        clear hd8 hk8 hb8 hm hF
        go_wp2_with fail
        refine (read_any w8 _ o nb8 sb8 _ _ _ sureB (by decide) (by omega) HD8.out).mono ?_
        rintro e w9 ⟨v9, hb9, h | h | h⟩
        · exact absurd h.1 (by simp [Disk.crashed])
        · exact absurd h.2.1 (by show m sureK ≠ none; rw [HM.out]; simp)
        obtain ⟨_, g', hg', rfl, hown⟩ := h
        have hgg : g' = g := by
          have h' : m sureK = some g' := hg'
          rw [HM.out] at h'
          cases h'; rfl
        subst hgg
        rw [show (((A.crashed m F).file g').1) = (F g').1 from rfl, HF.out] at hown
        obtain ⟨A9, c9, rfl⟩ := own_slice hown
        have hs9 := own_string (P := Try.prog) (src := 31) (dst := 9) (e := 5) Try.underlying31 Try.underlying5 Try.underlying9 hown
        rw [str_take] at hs9
        have hxl : (b.data.toList ++ more.data.toList).length = b.size + more.size := by rw [List.length_append, Array.length_toList, Array.length_toList]; rfl
        rw [hxl] at hc2
        have hlen : ((b.data.toList ++ more.data.toList).take cc).length = cc := by rw [List.length_take, hxl]; omega
        rw [hlen] at hs9 ⊢
        have HS9 := Aside0.mk (show ∀ x : { W : World // Below w9.heap.size w9 W }, (convert 31 9 (.slice A9 cc c9)).run Try.prog x.1 = .ok (.string ((b ++ more).extract 0 cc)) x.1 from fun x => by
          have := own_string (P := Try.prog) (src := 31) (dst := 9) (e := 5) Try.underlying31 Try.underlying5 Try.underlying9 (own_beside hown x.2)
          rw [str_take, hlen] at this
          exact this)
        have HB9 := Aside0.mk (HB8.out.trans (hb9.mono HB8.out.size))
        have l1 : decide (cc < b.size) = false := decide_eq_false (by omega)
        have l2 : decide (b.size + more.size < cc) = false := decide_eq_false (by omega)
        have l3 : decide ((b.size : Int) + (more.size : Int) < (cc : Int)) = false := decide_eq_false (by omega)
        clear hown hb9 hs9 hg' hlen hxl
        go_upto_region 20 with fail
        have hsz : (b ++ more).size = b.size + more.size := size_append' b more
        have hfam : ∃ (T : Type) (fw : T → World), (∀ x, (convert 31 9 (.slice A9 cc c9)).run Try.prog (fw x) = .ok (.string ((b ++ more).extract 0 cc)) (fw x)) ∧ (∀ x, Calls Try.prog 7 #[] (fw x) (fun e w' => e = .returned (.bool true) ∧ ∃ y, w' = fw y)) ∧ (∀ x, Below w9.heap.size w9 (fw x)) ∧ ∃ x, w9.drew = fw x :=
          ⟨{ W : World // Below w9.heap.size w9 W }, Subtype.val, HS9.out, fun x => (awake_any x.1).mono fun e w' ⟨he, hb⟩ => ⟨he, ⟨w', x.2.trans (hb.mono x.2.size)⟩, rfl⟩, fun x => x.2, ⟨w9.drew, (Below.refl _ _).drew⟩, rfl⟩
        obtain ⟨T, fw, hs20, kaw, kbl, ⟨x0, hx0⟩⟩ := hfam
        have KAW := Aside0.mk kaw
        have KBL := Aside0.mk kbl
        have KX := Aside0.mk hx0
        haveI : Nonempty T := ⟨x0⟩
        have hcat : (9223372036854775807 < b.size + more.size) = False := eq_false (by omega)
        clear kaw kbl hx0
        refine wp_region_family fw (by kernel_rfl) (by kernel_rfl) ⟨x0, KX.out⟩ ?_
        repeat (first | go_big_quiet_step ((go_at_call 7; exact KAW.out _)) | quiet_step (fail))
        refine wpQuiet_nil ?_
        rintro w' ⟨x, rfl⟩
        go_wp2
        go_ret
        exact ⟨rfl, HB9.out.trans ((KBL.out x).mono HB9.out.size)⟩
      | succ qq =>
        have hlt : decide (i < no) = true := decide_eq_true (by omega)
        have hii : i < no := by omega
        have HIK := Aside0.mk hik
        obtain ⟨ad, rfl, hop⟩ := HROW.out (by omega)
        obtain ⟨k, a, bb, n, A1, A2, n1, c1, n2, c2, hat⟩ := hop i hii
        obtain ⟨Sd, Sq, A, ht, hkp, hbw, hlow, hmr⟩ := HR.out
        have hat2 := hat.below hbw
        have HSA := Aside0.mk hat.sa
        have HSB := Aside0.mk hat.sb
        have e0 := hat2.k0
        have e1 := hat2.k1
        have e2 := hat2.k2
        have e3 := hat2.k3
        have e4 := hat2.k4
        have e5 := hat2.k5
        rw [add_field _ _ _ (by decide)] at e1 e2 e3 e4 e5
        have HT := Aside0.mk ht
        have HKP := Aside0.mk hkp
        have HBW := Aside0.mk hbw
        have HLOW := Aside0.mk hlow
        have HMR := Aside0.mk hmr
        clear hat hat2 ht hkp hbw hlow hmr hop hik
        go_upto_region 12 with fail
        have hW : ∃ W, W = wr.alloc (opCells k a bb n A1 A2 n1 c1 n2 c2) := ⟨_, rfl⟩
        obtain ⟨W, hW⟩ := hW
        rw [← hW]
        have hbW : Below wr.heap.size wr W := hW ▸ (Below.refl _ _).alloc (Nat.le_refl _) _
        have hblk : W.heap[wr.heap.size]? = some (.cells #[.int .i64 k, .string a, .string bb, .int .i64 n, .slice A1 n1 c1, .slice A2 n2 c2] 38 (0, 0)) := hW ▸ heap_alloc_new wr _
        have ob0 : W.cell? ⟨wr.heap.size, 0, none⟩ = some (.int .i64 k) := blk_cell hblk 0
        have ob1 : W.cell? ⟨wr.heap.size, 1, none⟩ = some (.string a) := blk_cell hblk 1
        have ob2 : W.cell? ⟨wr.heap.size, 2, none⟩ = some (.string bb) := blk_cell hblk 2
        have ob3 : W.cell? ⟨wr.heap.size, 3, none⟩ = some (.int .i64 n) := blk_cell hblk 3
        have ob4 : W.cell? ⟨wr.heap.size, 4, none⟩ = some (.slice A1 n1 c1) := blk_cell hblk 4
        have ob5 : W.cell? ⟨wr.heap.size, 5, none⟩ = some (.slice A2 n2 c2) := blk_cell hblk 5
        have HBW2 := Aside0.mk hbW
        have HBLK := Aside0.mk hblk
        clear hbW hblk hW e0 e1 e2 e3 e4 e5
        go_cut [105] (fun s105 wx => wx = W ∧ ∃ sk : Bool, s105 = .bool sk ∧ (sk = false → bb.size ≤ 100 ∧ k ≤ 4 ∧ (k = 2 → a ≠ sureB ∧ bb ≠ sureB) ∧ (k = 3 → a ≠ sureB)))
        case first =>
          by_cases h1 : 100 < bb.size
          · have q1 : decide ((100 : Int) < (bb.size : Int)) = true := decide_eq_true (by omega)
            clear h1
            go_wp2
            go_meet
            exact ⟨rfl, true, rfl, fun h => by cases h⟩
          · have q1 : decide ((100 : Int) < (bb.size : Int)) = false := decide_eq_false (by omega)
            have H1 := Aside0.mk h1
            clear h1
            by_cases h2 : k = 2
            · subst h2
              by_cases ha : a = sureB
              · have qa : (a.toList = [115, 117, 114, 101]) = True := eq_true ((toList_eq' a).2 ha)
                clear ha
                go_wp2
                go_meet
                exact ⟨rfl, true, rfl, fun h => by cases h⟩
              · have qa : (a.toList = [115, 117, 114, 101]) = False := eq_false (fun e => ha ((toList_eq' a).1 e))
                have HA := Aside0.mk ha
                clear ha
                by_cases hb : bb = sureB
                · have qb : (bb.toList = [115, 117, 114, 101]) = True := eq_true ((toList_eq' bb).2 hb)
                  clear hb
                  go_wp2
                  go_meet
                  exact ⟨rfl, true, rfl, fun h => by cases h⟩
                · have qb : (bb.toList = [115, 117, 114, 101]) = False := eq_false (fun e => hb ((toList_eq' bb).1 e))
                  have HB := Aside0.mk hb
                  clear hb
                  go_wp2
                  go_meet
                  exact ⟨rfl, false, by simp [qa, qb], fun _ => ⟨by have := H1.out; omega, by omega, fun _ => ⟨HA.out, HB.out⟩, fun h => by omega⟩⟩
            · have qk2 : (k == 2) = false := beq_eq_false_iff_ne.2 h2
              have H2 := Aside0.mk h2
              clear h2
              by_cases h3 : k = 3
              · subst h3
                by_cases ha : a = sureB
                · have qa : (a.toList = [115, 117, 114, 101]) = True := eq_true ((toList_eq' a).2 ha)
                  clear ha
                  go_wp2
                  go_meet
                  exact ⟨rfl, true, rfl, fun h => by cases h⟩
                · have qa : (a.toList = [115, 117, 114, 101]) = False := eq_false (fun e => ha ((toList_eq' a).1 e))
                  have HA := Aside0.mk ha
                  clear ha
                  go_wp2
                  go_meet
                  exact ⟨rfl, false, by simp [qa], fun _ => ⟨by have := H1.out; omega, by omega, fun h => by omega, fun _ => HA.out⟩⟩
              · have qk3 : (k == 3) = false := beq_eq_false_iff_ne.2 h3
                have H3 := Aside0.mk h3
                clear h3
                by_cases h4 : 4 < k
                · have q4 : decide (4 < k) = true := decide_eq_true h4
                  clear h4
                  go_wp2
                  go_meet
                  exact ⟨rfl, true, rfl, fun h => by cases h⟩
                · have q4 : decide (4 < k) = false := decide_eq_false h4
                  have H4 := Aside0.mk h4
                  clear h4
                  go_wp2
                  go_meet
                  exact ⟨rfl, false, rfl, fun _ => ⟨by have := H1.out; omega, by have := H4.out; omega, fun h => absurd h H2.out, fun h => absurd h H3.out⟩⟩
        case rest =>
          obtain ⟨rfl, sk, rfl, hsk⟩ := hcut
          have HSK := Aside0.mk hsk
          clear hsk
          cases sk with
          | true =>
            go_wp2
            go_roundg qq
            case measure => omega
            case rel => exact ⟨i + 1, more, rfl, by go_num, by have := HIK.out; omega, HR.out.skip HBW2.out⟩
          | false =>
            obtain ⟨g1, g4, g2, g3⟩ := HSK.out rfl
            have hdo := last_do HT.out HKP.out HBW.out HLOW.out HMR.out HBW2.out g1 g4 g2 g3 (do_any _ Sd Sq d q _ _ A k a bb n A1 A2 n1 c1 n2 c2 HSA.out (by omega) (by omega) (by omega) (HT.out.beside HBW2.out))
            have HDO := Aside0.mk hdo
            clear g4 g2 g3 hdo
            go_wp2_with fail
            refine HDO.out.mono ?_
            rintro e w8 ⟨r, r2, rfl, hr8, hk8⟩
            have hblk8 := (hk8 _ (Nat.le_refl _) (blk_lt HBLK.out)).trans HBLK.out
            have oc0 : w8.cell? ⟨wr.heap.size, 0, none⟩ = some (.int .i64 k) := blk_cell hblk8 0
            have oc1 : w8.cell? ⟨wr.heap.size, 1, none⟩ = some (.string a) := blk_cell hblk8 1
            have oc2 : w8.cell? ⟨wr.heap.size, 2, none⟩ = some (.string bb) := blk_cell hblk8 2
            have HR8 := Aside0.mk hr8
            clear hr8 hk8 hblk8 ob0 ob1 ob2 ob3 ob4 ob5
            have HBB := Aside0.mk g1
            clear HDO HSK g1
            by_cases hk0 : k = 0
            · subst hk0
              by_cases ha : a = sureB
              · have qa : (a.toList = [115, 117, 114, 101]) = True := eq_true ((toList_eq' a).2 ha)
                have qb : (a.toList == [115, 117, 114, 101]) = true := by simp [qa]
                by_cases hr : r = 0
                · subst hr
                  have hr9 := HR8.out
                  rw [if_pos ⟨rfl, ha, rfl⟩] at hr9
                  have HR9 := Aside0.mk hr9
                  have hcat : (9223372036854775807 < more.size + bb.size) = False := eq_false (by have := HMR.out; have := HBB.out; omega)
                  clear ha HR8 hr9
                  go_wp2
                  go_roundg qq
                  case measure => omega
                  case rel => exact ⟨i + 1, more ++ bb, rfl, by go_num, by have := HIK.out; omega, HR9.out⟩
                · have qr : (r == 0) = false := beq_eq_false_iff_ne.2 hr
                  have hr9 := HR8.out
                  rw [if_neg (fun h => hr h.2.2)] at hr9
                  have HR9 := Aside0.mk hr9
                  clear hr ha HR8 hr9
                  go_wp2
                  go_roundg qq
                  case measure => omega
                  case rel => exact ⟨i + 1, more, rfl, by go_num, by have := HIK.out; omega, HR9.out⟩
              · have qa : (a.toList = [115, 117, 114, 101]) = False := eq_false (fun e => ha ((toList_eq' a).1 e))
                have qb : (a.toList == [115, 117, 114, 101]) = false := by simp [qa]
                have hr9 := HR8.out
                rw [if_neg (fun h => ha h.2.1)] at hr9
                have HR9 := Aside0.mk hr9
                clear ha HR8 hr9
                go_wp2
                go_roundg qq
                case measure => omega
                case rel => exact ⟨i + 1, more, rfl, by go_num, by have := HIK.out; omega, HR9.out⟩
            · have qk0 : (k == 0) = false := beq_eq_false_iff_ne.2 hk0
              have hr9 := HR8.out
              rw [if_neg (fun h => hk0 h.1)] at hr9
              have HR9 := Aside0.mk hr9
              clear hk0 HR8 hr9
              go_wp2
              go_roundg qq
              case measure => omega
              case rel => exact ⟨i + 1, more, rfl, by go_num, by have := HIK.out; omega, HR9.out⟩

end Go.Proofs.Ytolpgajodhondaa
