/- DiskQuiet: the walk. -/
import Derived.Test.YtolpgajodhondaaQ2
import Derived.Test.YtolpgajodhondaaL3
namespace Go.Proofs.Ytolpgajodhondaa
open Go.RowKit Go.Maps Go.Sort Go.WideMaps Go.Proofs.YtolpgajodhondaaW.PrintWords

set_option maxHeartbeats 4000000 in
set_option maxRecDepth 100000 in
theorem diskQuiet_any (w : World) (vo : Value) (no : Nat) (vk vc : Value) (cut : List Nat) (hcl : cut.length ≤ 140737488351232) (ho : OpsRow w vo no) (hvk : RowOf w vk fun u => ∃ b, u = .bool b) (hvc : CutRow w vc cut) :
    Calls Try.prog 4 #[vo, vk, vc] w fun e w' => e = .returned (.bool true) ∧ Below w.heap.size w w' := by
  obtain ⟨P, c, rfl, hno, hrow⟩ := ho
  obtain ⟨kP, kn, kc, rfl, hkr⟩ := hvk
  obtain ⟨cP, cc, rfl, hcr⟩ := hvc
  have HROW := Aside0.mk hrow
  have HVK : Aside0 (RowOf w (.slice kP kn kc) fun u => ∃ b, u = .bool b) := ⟨⟨kP, kn, kc, rfl, hkr⟩⟩
  have HVC : Aside0 (CutRow w (.slice cP cut.length cc) cut) := ⟨⟨cP, cc, rfl, hcr⟩⟩
  clear hrow hkr hcr
  go_enter Try.func4, Try.ntmps4
  go_wp2_with fail
  refine (now_new w 5000 (by decide) (by decide)).mono ?_
  rintro e w1 ⟨d, rfl, h1, hb1⟩
  have H1 := Aside0.mk h1
  have HB1 := Aside0.mk hb1
  clear h1 hb1
  by_cases hbad : 100 < no
  · have hy : decide ((100 : Int) < (no : Int)) = true := decide_eq_true (by omega)
    clear hbad
    go_wp2_with (go_at_call 7; refine (awake_any _).mono ?_; rintro e w2 ⟨rfl, hb2⟩; have HB2 := Aside0.mk (HB1.out.trans (hb2.mono HB1.out.size)); clear hb2)
    go_ret
    exact ⟨rfl, HB2.out⟩
  · have hy : decide ((100 : Int) < (no : Int)) = false := decide_eq_false (by omega)
    have hn1 : no ≤ 100 := by omega
    clear hbad
    go_wp2_with fail
    go_loopg [51] no (fun kq v51 wr => ∃ i : Nat, v51 = .int .i64 i ∧ i + kq = no ∧ DiskNow wr w.heap.size wr.heap.size d i (100 * i) (fun _ => True) ∧ Below w.heap.size w wr)
    case atStart => exact ⟨0, rfl, by omega, H1.out.mono (by omega) (by omega) (fun _ _ => trivial), HB1.out⟩
    case round =>
      obtain ⟨i, rfl, hik, hnow, hbw⟩ := hrel
      have HN := Aside0.mk hnow
      have HBW := Aside0.mk hbw
      clear hnow hbw hy
      cases gk with
      | succ qq =>
        have hlt : decide (i < no) = true := decide_eq_true (by omega)
        have hii : i < no := by omega
        have HIK := Aside0.mk hik
        obtain ⟨ad, rfl, hop⟩ := HROW.out (by omega)
        obtain ⟨k, a, bb, n, A1, A2, n1, c1, n2, c2, hat⟩ := hop i hii
        have hat2 := hat.below HBW.out
        have HSA := Aside0.mk hat.sa
        have e0 := hat2.k0
        have e1 := hat2.k1
        have e2 := hat2.k2
        have e3 := hat2.k3
        have e4 := hat2.k4
        have e5 := hat2.k5
        rw [add_field _ _ _ (by decide)] at e1 e2 e3 e4 e5
        clear hat hat2 hop hik
        go_upto_region 7 with fail
        have hW : ∃ W, W = wr.alloc (opCells k a bb n A1 A2 n1 c1 n2 c2) := ⟨_, rfl⟩
        obtain ⟨W, hW⟩ := hW
        rw [← hW]
        have hbW : Below wr.heap.size wr W := hW ▸ (Below.refl _ _).alloc (Nat.le_refl _) _
        have hblk : W.heap[wr.heap.size]? = some (.cells #[.int .i64 k, .string a, .string bb, .int .i64 n, .slice A1 n1 c1, .slice A2 n2 c2] 38 (0, 0)) := hW ▸ heap_alloc_new wr _
        have ob0 : W.cell? ⟨wr.heap.size, 0, none⟩ = some (.int .i64 k) := blk_cell hblk 0
        have ob1 : W.cell? ⟨wr.heap.size, 1, none⟩ = some (.string a) := blk_cell hblk 1
        have ob2 : W.cell? ⟨wr.heap.size, 2, none⟩ = some (.string bb) := blk_cell hblk 2
        have ob3 : W.cell? ⟨wr.heap.size, 3, none⟩ = some (.int .i64 n) := blk_cell hblk 3
        have ob4 : W.cell? ⟨wr.heap.size, 4, none⟩ = some (.slice A1 n1 c1) := blk_cell hblk 4
        have ob5 : W.cell? ⟨wr.heap.size, 5, none⟩ = some (.slice A2 n2 c2) := blk_cell hblk 5
        have HBW2 := Aside0.mk hbW
        have HBLK := Aside0.mk hblk
        clear hbW hblk hW e0 e1 e2 e3 e4 e5
        by_cases h1 : 100 < bb.size
        · have q1 : decide ((100 : Int) < (bb.size : Int)) = true := decide_eq_true (by omega)
          clear h1
          have HBW3 := Aside0.mk (HBW.out.trans (HBW2.out.mono HBW.out.size))
          go_wp2_with (go_at_call 7; refine (awake_any _).mono ?_; rintro e w2 ⟨rfl, hb2⟩; have HB2 := Aside0.mk (HBW3.out.trans (hb2.mono HBW3.out.size)); clear hb2)
          go_ret
          exact ⟨rfl, HB2.out⟩
        · have q1 : decide ((100 : Int) < (bb.size : Int)) = false := decide_eq_false (by omega)
          have HBB := Aside0.mk (show bb.size ≤ 100 by omega)
          clear h1
          go_upto_region 9 with fail
          go_region_held3 (fun W' => W'.cell? ⟨wr.heap.size, 0, none⟩ = some (.int .i64 k) ∧ W'.cell? ⟨wr.heap.size, 1, none⟩ = some (.string a) ∧ W'.cell? ⟨wr.heap.size, 2, none⟩ = some (.string bb) ∧ W'.cell? ⟨wr.heap.size, 3, none⟩ = some (.int .i64 n) ∧ W'.cell? ⟨wr.heap.size, 4, none⟩ = some (.slice A1 n1 c1) ∧ W'.cell? ⟨wr.heap.size, 5, none⟩ = some (.slice A2 n2 c2)) (first | exact ⟨ob0, ob1, ob2, ob3, ob4, ob5⟩ | exact s1 | exact s2)
            (first
              | (go_at_call 12
                 refine (ref_new W.drew 1).mono ?_
                 rintro e w1 ⟨q, rfl, hq1, hb1⟩
                 have hbW1 : Below W.heap.size W w1 := ((Below.refl W.heap.size W).drew).trans hb1
                 have hl := blk_lt HBLK.out
                 have s1 : w1.cell? ⟨wr.heap.size, 0, none⟩ = some (.int .i64 k) ∧ w1.cell? ⟨wr.heap.size, 1, none⟩ = some (.string a) ∧ w1.cell? ⟨wr.heap.size, 2, none⟩ = some (.string bb) ∧ w1.cell? ⟨wr.heap.size, 3, none⟩ = some (.int .i64 n) ∧ w1.cell? ⟨wr.heap.size, 4, none⟩ = some (.slice A1 n1 c1) ∧ w1.cell? ⟨wr.heap.size, 5, none⟩ = some (.slice A2 n2 c2) :=
                   ⟨(hbW1.cell hl).trans ob0, (hbW1.cell hl).trans ob1, (hbW1.cell hl).trans ob2, (hbW1.cell hl).trans ob3, (hbW1.cell hl).trans ob4, (hbW1.cell hl).trans ob5⟩
                 have HQ1 := Aside0.mk hq1
                 have HBW1 := Aside0.mk hbW1
                 clear hq1 hb1 hbW1)
              | (go_at_call 13
                 refine (quiet_do (w := w) HN.out HBW.out HBW2.out HBW1.out HQ1.out (by omega) HSA.out HBB.out).mono ?_
                 rintro e w2 ⟨⟨r, r2, rfl⟩, hn2, hb2, hk2⟩
                 have hb := (hk2 _ (Nat.le_refl _) (blk_lt HBLK.out)).trans ((HBW1.out.block _ (blk_lt HBLK.out)).trans HBLK.out)
                 have s2 : w2.cell? ⟨wr.heap.size, 0, none⟩ = some (.int .i64 k) ∧ w2.cell? ⟨wr.heap.size, 1, none⟩ = some (.string a) ∧ w2.cell? ⟨wr.heap.size, 2, none⟩ = some (.string bb) ∧ w2.cell? ⟨wr.heap.size, 3, none⟩ = some (.int .i64 n) ∧ w2.cell? ⟨wr.heap.size, 4, none⟩ = some (.slice A1 n1 c1) ∧ w2.cell? ⟨wr.heap.size, 5, none⟩ = some (.slice A2 n2 c2) :=
                   ⟨blk_cell hb 0, blk_cell hb 1, blk_cell hb 2, blk_cell hb 3, blk_cell hb 4, blk_cell hb 5⟩
                 have HN2 := Aside0.mk hn2
                 have HB2 := Aside0.mk hb2
                 clear hn2 hb2 hk2 hb))
          go_wp2
          go_roundg qq
          case measure => omega
          case rel => exact ⟨i + 1, by go_num, by have := HIK.out; omega, HN2.out, HB2.out⟩
      | zero =>
        have hlt : decide (i < no) = false := decide_eq_false (by omega)
        obtain ⟨ht, nb, sb, D, hd, _⟩ := HN.out
        have hi100 : i ≤ 100 := by omega
        have hfl : ∀ f, D.refs f → (D.file f).2 ≤ (D.file f).1.length := fun f hf => by obtain ⟨_, v, _, _, h4, _⟩ := hd.files f hf; exact h4
        have HD := Aside0.mk hd
        have HFL := Aside0.mk hfl
        clear hd hfl ht hik HN H1
        go_wp2_with fail
        refine (crash_any wr _ d nb sb i (100 * i) D _ _ cut (by omega) (by omega) (HVK.out.below HBW.out) (HVC.out.below HBW.out) HD.out).mono ?_
        rintro e w2 ⟨a, nba, sba, ts, m, F, rfl, hda, hka, hb2⟩
        have HSET := Aside0.mk (crash_settled HFL.out hka)
        have HA2 := Aside0.mk hda.tight
        have HST := Aside0.mk (show (D.crashed m F).steps = 0 from rfl)
        generalize D.crashed m F = A at *
        have HB2 := Aside0.mk (HBW.out.trans (hb2.mono HBW.out.size))
        have HS2 := Aside0.mk HBW.out.size
        clear hda hka hb2 HFL HD
        go_wp2_with fail
        refine (cutKeep_any w2 _ cut hcl (HVC.out.below HB2.out)).mono ?_
        rintro e w3 ⟨vk3, rfl, hrow3, hb3⟩
        have HR3 := Aside0.mk hrow3
        have HB3 := Aside0.mk hb3
        clear hrow3 hb3
        go_wp2_with fail
        have hb34 : Below w3.heap.size w3 (w3.alloc (.cells #[.int .u16 9, .int .u16 9, .int .u16 9] 46)) := (Below.refl _ _).alloc (Nat.le_refl _) _
        refine (crash_any _ _ a nba sba _ _ A vk3 _ [9, 9, 9] (by omega) (by omega) (HR3.out.below hb34) (nines w3) ((HA2.out.beside HB3.out).beside hb34)).mono ?_
        rintro e w5 ⟨b, nbb, sbb, ts2, m2, F2, rfl, hdb, hkb, hb5⟩
        have HSAME := Aside0.mk (crash_same HSET.out hkb)
        have HDB := Aside0.mk (show (A.crashed m2 F2).down = false from rfl)
        generalize A.crashed m2 F2 = B at *
        have HB5 := Aside0.mk (HB3.out.trans ((hb34.trans (hb5.mono hb34.size)).mono HB3.out.size))
        have HBB := Aside0.mk hdb
        clear hdb hkb hb5 hb34 HR3 HB3
        go_wp2_with fail
        refine (names_any w5 _ a nba sba _ _ A (by omega) (HA2.out.beside HB5.out)).mono ?_
        rintro e w6 ⟨vn, ks, rfl, hks, hrow6, hb6⟩
        rcases hks with ⟨hx, _⟩ | ⟨_, hks⟩
        · rw [HSET.out.down] at hx; cases hx
        obtain ⟨P6, c6, rfl⟩ := own_slice hrow6
        have HKS := Aside0.mk hks
        have HR6 := Aside0.mk hrow6
        have HB6 := Aside0.mk hb6
        clear hks hrow6 hb6
        go_wp2_with fail
        refine (names_any w6 _ b nbb sbb _ _ B (by omega) (HBB.out.beside HB6.out)).mono ?_
        rintro e w7 ⟨vn7, ks7, rfl, hks7, hrow7, hb7⟩
        rcases hks7 with ⟨hx, _⟩ | ⟨_, hks7⟩
        · rw [HDB.out] at hx; cases hx
        obtain ⟨P7, c7, rfl⟩ := own_slice hrow7
        have hlen : ks7.length = ks.length := keys_length HKS.out hks7 HSAME.out.has
        have HB67 := Aside0.mk (HB6.out.trans (hb7.mono HB6.out.size))
        have HA7 := Aside0.mk ((HA2.out.beside HB5.out).beside HB67.out)
        have HBB7 := Aside0.mk (HBB.out.beside HB67.out)
        have HR7 := Aside0.mk (own_beside HR6.out hb7)
        have HB7 := Aside0.mk (HB2.out.trans ((HB5.out.trans (HB67.out.mono HB5.out.size)).mono HB2.out.size))
        have HS25 := Aside0.mk HB5.out.size
        have HS27 := Aside0.mk (show w2.heap.size ≤ w7.heap.size from Nat.le_trans HB5.out.size HB67.out.size)
        have hkl := HKS.out.len
        clear hks7 hrow7 hb7 HR6 HB6 HB67 HBB HB5
        rw [hlen]
        clear hlen
        go_wp2_with fail
        refine (down_any w7 _ a nba sba _ _ A HA7.out).mono ?_
        rintro e w8 ⟨rfl, hw8⟩
        rw [HSET.out.down, hw8]
        clear hw8
        go_wp2_with fail
        refine (steps_any w7 _ a nba sba _ _ A HA7.out).mono ?_
        rintro e w8 ⟨rfl, hw8⟩
        rw [HST.out, hw8]
        clear hw8
        go_wp2_with fail
        go_loopg [93] ks.length (fun kq v93 wr2 => ∃ j : Nat, v93 = .int .i64 j ∧ j + kq = ks.length ∧ Below w7.heap.size w7 wr2)
        case atStart => exact ⟨0, rfl, by omega, Below.refl _ _⟩
        case round =>
          obtain ⟨j, rfl, hjk, hb⟩ := hrel
          have HJK := Aside0.mk hjk
          have HBR := Aside0.mk hb
          cases gk with
          | succ qq =>
            have hlt : decide (j < ks.length) = true := decide_eq_true (by omega)
            have hjl : j < ks.length := by omega
            obtain ⟨ad, rfl, hcell⟩ := names_cell (own_beside HR7.out hb) j hjl
            have hmem : ks.getD j [] ∈ ks := by rw [List.getD_eq_getElem?_getD, List.getElem?_eq_getElem hjl]; exact List.getElem_mem hjl
            generalize ks.getD j [] = kk at *
            have hkk : kk.length ≤ maxLen := HKS.out.short kk hmem
            have hsz : (⟨kk.toArray⟩ : ByteArray).size ≤ maxLen := by simpa [ByteArray.size] using hkk
            obtain ⟨f, hf⟩ := Option.isSome_iff_exists.1 ((HKS.out.mem kk).1 hmem)
            obtain ⟨g, hg⟩ := Option.isSome_iff_exists.1 ((HSAME.out.has kk).trans ((HKS.out.mem kk).1 hmem))
            have HBY := Aside0.mk (HSAME.out.bytes kk f g hf hg)
            have HF := Aside0.mk hf
            have HG := Aside0.mk hg
            have HSZ := Aside0.mk hsz
            change wr.cell? (ad.add j) = some (.string ⟨kk.toArray⟩) at hcell
            clear hb hjk hmem hkk hf hg hsz
            go_wp2_with fail
            refine (got_any wr _ a nba sba _ _ A ⟨kk.toArray⟩ f HSZ.out (by omega) (HA7.out.beside HBR.out) HSET.out.down HF.out).mono ?_
            rintro e w8 ⟨v8, rfl, ho8, hb8⟩
            have HO8 := Aside0.mk ho8
            have HB8 := Aside0.mk (HBR.out.trans (hb8.mono HBR.out.size))
            clear ho8 hb8
            go_wp2_with fail
            refine (got_any w8 _ b nbb sbb _ _ B ⟨kk.toArray⟩ g HSZ.out (by omega) (HBB7.out.beside HB8.out) HDB.out HG.out).mono ?_
            rintro e w9 ⟨v9, rfl, ho9, hb9⟩
            rw [HBY.out] at ho9
            have hs8 := own_string (P := Try.prog) (src := 31) (dst := 9) (e := 5) Try.underlying31 Try.underlying5 Try.underlying9 (own_beside HO8.out hb9)
            have hs9 := own_string (P := Try.prog) (src := 31) (dst := 9) (e := 5) Try.underlying31 Try.underlying5 Try.underlying9 ho9
            have HB9 := Aside0.mk (HB8.out.trans (hb9.mono HB8.out.size))
            clear ho9 hb9 hcell
            go_wp2
            go_roundg qq
            case measure => omega
            case rel => exact ⟨j + 1, by go_num, by have := HJK.out; omega, HB9.out⟩
          | zero =>
            have hlt : decide (j < ks.length) = false := decide_eq_false (by omega)
            have hhold : Hold w (.slice P6 ks.length c6) ks wr a (2 * i) (100 * i) (Settled m) := by
              have hwr := HBR.out.size
              have h25 := HS25.out
              refine ⟨_, nba, sba, A, HA7.out.beside HBR.out, HSET.out, fun k hk => ⟨Nat.le_trans HBW.out.size hk.1, ?_⟩, fun r hr hs => ?_, own_weaken (own_beside HR7.out HBR.out) (Nat.le_trans HB2.out.size HS25.out), HB7.out.trans (HBR.out.mono HB7.out.size)⟩
              · have h1 := hk.2
                have h3 := HS27.out
                omega
              · have h1 := own_base HR7.out r hr
                have h2 := hs.2
                omega
            have HH := Aside0.mk hhold
            clear hhold hb hjk HBR HJK HA7 HBB7 HSAME HDB HR7
            go_wp2_with fail
            go_loopg [125] ks.length (fun kq v125 wr3 => ∃ j : Nat, v125 = .int .i64 j ∧ j + kq = ks.length ∧ Hold w (.slice P6 ks.length c6) ks wr3 a (2 * i + j) (100 * i + j) (Settled m))
            case atStart => exact ⟨0, rfl, by omega, HH.out⟩
            case round =>
              obtain ⟨j3, rfl, hjk, hh⟩ := hrel
              have HJK := Aside0.mk hjk
              have HH3 := Aside0.mk hh
              cases gk with
              | succ qq =>
                have kc := fun (w : World) (C : Array Value) (n c : Nat) => Lib.run_convert_bytes_const (P := Try.prog) w 31 5 C n c Try.underlying31 Try.underlying5
                have hlt3 : decide (j3 < ks.length) = true := decide_eq_true (by omega)
                have hjl : j3 < ks.length := by omega
                have hrow3 : wr.ownsRow w.heap.size 9 1 (.slice P6 ks.length c6) ks.length (ks.map encStr) := by obtain ⟨_, _, _, _, _, _, _, _, h5, _⟩ := hh; exact h5
                obtain ⟨ad, rfl, hcell⟩ := names_cell hrow3 j3 hjl
                have hmem : ks.getD j3 [] ∈ ks := by rw [List.getD_eq_getElem?_getD, List.getElem?_eq_getElem hjl]; exact List.getElem_mem hjl
                generalize ks.getD j3 [] = kk at *
                have hkk : kk.length ≤ maxLen := HKS.out.short kk hmem
                have hsz : (⟨kk.toArray⟩ : ByteArray).size ≤ maxLen := by simpa [ByteArray.size] using hkk
                have hmk : (m kk).isSome = true := by have := (HKS.out.mem kk).1 hmem; rwa [HSET.out.names] at this
                have HMK := Aside0.mk hmk
                have HSZ := Aside0.mk hsz
                change wr.cell? (ad.add j3) = some (.string ⟨kk.toArray⟩) at hcell
                clear hh hjk hmem hkk hsz hrow3 hmk
                go_wp2_with fail
                have hw4 : ∃ w4, w4 = wr.alloc (Obj.cells #[Value.int IntKind.u8 122] 5 (1, 2)) := ⟨_, rfl⟩
                obtain ⟨w4, hw4⟩ := hw4
                have hr4 : ReadsInt w4 .u8 (some ⟨wr.heap.size, 0, none⟩) [122].length (ints [122]) := hw4 ▸ reads_new wr [122] (1, 2) (by decide)
                have hb4 : Below wr.heap.size wr w4 := hw4 ▸ (Below.refl _ _).alloc (Nat.le_refl _) _
                have hx := hold_append (Q := But m kk) HH3.out hb4 ⟨kk.toArray⟩ [122] HSZ.out (by unfold maxLen; omega) (by show 100 * i + j3 + 1 ≤ _; omega) (Nat.le_trans (Nat.mul_le_mul (show 2 * i + j3 ≤ 1000 by omega) (show 100 * i + j3 ≤ 100000 by omega)) (by decide)) _ 1 hr4 (fun x hx => by cases hx; exact Nat.le_refl _) (fun B hB ok full g => hB.append ok full g kk [122] HMK.out)
                rw [hw4] at hx
                refine hx.mono ?_
                rintro e w5' ⟨n5, rfl, h5⟩
                have H5 := Aside0.mk h5
                clear h5 hx hw4 hr4 hb4 kc
                go_wp2_with fail
                refine (hold_sync (Q := Settled m) H5.out ⟨kk.toArray⟩ HSZ.out (fun B hB => hB.sync)).mono ?_
                rintro e w6' ⟨n6, rfl, h6⟩
                have H6 := Aside0.mk h6
                clear h6 hcell
                go_wp2
                go_roundg qq
                case measure => omega
                case rel => exact ⟨j3 + 1, by go_num, by have := HJK.out; omega, H6.out⟩
              | zero =>
                have hlt3 : decide (j3 < ks.length) = false := decide_eq_false (by omega)
                have hj3 : j3 = ks.length := by omega
                clear hh hjk
                go_wp2_with fail
                refine (hold_syncNames (Q := Settled m) HH3.out (fun B hB => hB.syncNames)).mono ?_
                rintro e w4 ⟨n4, rfl, h4⟩
                obtain ⟨S4, nb4, sb4, A4, h41, h42, h43, h44, h45, h46⟩ := h4
                have HA4 := Aside0.mk h41
                have HSET4 := Aside0.mk h42
                have HR4 := Aside0.mk h45
                have HB4 := Aside0.mk h46
                clear h41 h42 h43 h44 h45 h46 HH3
                go_wp2_with fail
                refine (crash_any w4 S4 a nb4 sb4 _ _ A4 _ _ cut (by omega) (by omega) (HVK.out.below HB4.out) (HVC.out.below HB4.out) HA4.out).mono ?_
                rintro e w5 ⟨o, nbo, sbo, ts5, m5, F5, rfl, hd5, hk5, hb5⟩
                have HSAME := Aside0.mk (crash_same HSET4.out hk5)
                have HDC := Aside0.mk (show (A4.crashed m5 F5).down = false from rfl)
                generalize A4.crashed m5 F5 = C at *
                have HC5 := Aside0.mk hd5
                have HA5 := Aside0.mk (HA4.out.beside hb5)
                have HR5 := Aside0.mk (own_beside HR4.out hb5)
                have HB5 := Aside0.mk (HB4.out.trans (hb5.mono HB4.out.size))
                clear hd5 hk5 hb5 HA4 HR4 HB4
                go_wp2_with fail
                go_loopg [146] ks.length (fun kq v146 wr4 => ∃ j : Nat, v146 = .int .i64 j ∧ j + kq = ks.length ∧ Below w5.heap.size w5 wr4)
                case atStart => exact ⟨0, rfl, by omega, Below.refl _ _⟩
                case round =>
                  obtain ⟨j4, rfl, hjk, hb⟩ := hrel
                  have HJK := Aside0.mk hjk
                  have HBR := Aside0.mk hb
                  cases gk with
                  | succ qq =>
                    have hlt4 : decide (j4 < ks.length) = true := decide_eq_true (by omega)
                    have hjl : j4 < ks.length := by omega
                    obtain ⟨ad, rfl, hcell⟩ := names_cell (own_beside HR5.out hb) j4 hjl
                    have hmem : ks.getD j4 [] ∈ ks := by rw [List.getD_eq_getElem?_getD, List.getElem?_eq_getElem hjl]; exact List.getElem_mem hjl
                    generalize ks.getD j4 [] = kk at *
                    have hkk : kk.length ≤ maxLen := HKS.out.short kk hmem
                    have hsz : (⟨kk.toArray⟩ : ByteArray).size ≤ maxLen := by simpa [ByteArray.size] using hkk
                    have hmk : (A4.names kk).isSome = true := by have := (HKS.out.mem kk).1 hmem; rwa [HSET.out.names, ← HSET4.out.names] at this
                    obtain ⟨f, hf⟩ := Option.isSome_iff_exists.1 hmk
                    obtain ⟨g, hg⟩ := Option.isSome_iff_exists.1 ((HSAME.out.has kk).trans hmk)
                    have HBY := Aside0.mk (HSAME.out.bytes kk f g hf hg)
                    have HF := Aside0.mk hf
                    have HG := Aside0.mk hg
                    have HSZ := Aside0.mk hsz
                    change wr.cell? (ad.add j4) = some (.string ⟨kk.toArray⟩) at hcell
                    clear hb hjk hmem hkk hf hg hsz hmk
                    go_wp2_with fail
                    refine (got_any wr _ a nb4 sb4 _ _ A4 ⟨kk.toArray⟩ f HSZ.out (by omega) (HA5.out.beside HBR.out) HSET4.out.down HF.out).mono ?_
                    rintro e w8 ⟨v8, rfl, ho8, hb8⟩
                    have HO8 := Aside0.mk ho8
                    have HB8 := Aside0.mk (HBR.out.trans (hb8.mono HBR.out.size))
                    clear ho8 hb8
                    go_wp2_with fail
                    refine (got_any w8 _ o nbo sbo _ _ C ⟨kk.toArray⟩ g HSZ.out (by omega) (HC5.out.beside HB8.out) HDC.out HG.out).mono ?_
                    rintro e w9 ⟨v9, rfl, ho9, hb9⟩
                    rw [HBY.out] at ho9
                    have hs8 := own_string (P := Try.prog) (src := 31) (dst := 9) (e := 5) Try.underlying31 Try.underlying5 Try.underlying9 (own_beside HO8.out hb9)
                    have hs9 := own_string (P := Try.prog) (src := 31) (dst := 9) (e := 5) Try.underlying31 Try.underlying5 Try.underlying9 ho9
                    have HB9 := Aside0.mk (HB8.out.trans (hb9.mono HB8.out.size))
                    clear ho9 hb9 hcell
                    go_wp2
                    go_roundg qq
                    case measure => omega
                    case rel => exact ⟨j4 + 1, by go_num, by have := HJK.out; omega, HB9.out⟩
                  | zero =>
                    have hlt4 : decide (j4 < ks.length) = false := decide_eq_false (by omega)
                    have HBF := Aside0.mk (HB5.out.trans (HBR.out.mono HB5.out.size))
                    clear hb hjk
                    go_wp2_with (go_at_call 7; refine (awake_any _).mono ?_; rintro e w9 ⟨rfl, hb9⟩; have HB9 := Aside0.mk (HBF.out.trans (hb9.mono HBF.out.size)); clear hb9)
                    go_ret
                    exact ⟨rfl, HB9.out⟩

end Go.Proofs.Ytolpgajodhondaa
