/- Bytes put behind a file's. -/
import Derived.Test.YtolpgajodhondaaD8
import Derived.IntWalk
namespace Go.Proofs.Ytolpgajodhondaa
open Go.RowKit Go.Maps Go.Sort Go.WideMaps Go.Proofs.YtolpgajodhondaaW.PrintWords

def NamePost (s : ByteArray) (w : World) (e : Ending) (w' : World) : Prop := ∃ ok : Bool, e = .returned (.bool ok) ∧ (plain s = true → ok = true) ∧ Below w.heap.size w w'

theorem name_full (s : ByteArray) (w : World) : Calls Try.prog 25 #[.string s] w (NamePost s w) := by
  cases h : plain s with
  | true => exact (name_plain s w h).mono fun e w' ⟨he, hb⟩ => ⟨true, he, fun _ => rfl, hb⟩
  | false => exact (name_any s w).mono fun e w' ⟨ok, he, hb⟩ => ⟨ok, he, (fun h' => absurd (h.symm.trans h') (by simp)), hb⟩

def Disk.append1 (B : Disk) (ok full : Bool) (g : Nat) (k b : List UInt8) : Disk × Int :=
  if ok = false then (B, 1) else if full = true then (B, 10) else
  match B.names k with
  | none => ({ B.setFile g (b, 0) with names := upd B.names k (some g) }, 0)
  | some f => (B.setFile f ((B.file f).1 ++ b, (B.file f).2), 0)

def AppendPost (w : World) (S : Nat → Prop) (d nb sb N L : Nat) (st : Disk × Int) (s : ByteArray) (b : List UInt8) (e : Ending) (w' : World) : Prop :=
  ∃ ok full g, (plain s = true → ok = true) ∧ ((N * L + b.length : Nat) ≤ st.1.room → N < 256 → full = false) ∧ w.heap.size ≤ g ∧
    e = .returned (.int .i64 (if st.2 ≠ 0 then st else st.1.append1 ok full g s.data.toList b).2) ∧ DiskIn w' (more S w) d nb sb (N + 1) (L + b.length) (if st.2 ≠ 0 then st else st.1.append1 ok full g s.data.toList b).1 ∧ Keeps S w w'

/-- In whatever world that differs by what was drawn. -/
theorem used_at (w : World) (S : Nat → Prop) (d nb sb N L : Nat) (A : Disk) (D : DataW Unit) (hNL : N * L ≤ 4611686018427387903) (h : DiskIn w S d nb sb N L A) (hD : NamesAre w nb N A D) (W : World) (e1 : W.heap = w.heap) (e2 : W.os = w.os) (e3 : W.tape = w.tape) (e4 : W.output = w.output) :
    Calls Try.prog 22 #[.pointer (some ⟨d, 0, none⟩)] W fun e w' => e = .returned (.int .i64 (usedOf D A)) ∧ Below w.heap.size w w' := by
  have hh : ∀ k : Nat, W.heap[k]? = w.heap[k]? := fun k => by rw [e1]
  refine (used_is W S d nb sb N L A D hNL (h.keep (fun k _ _ => hh k) (fun _ h => h)) ⟨ownsMap_block hD.own (hh nb), hD.has, hD.at_⟩).mono fun e w' ⟨he, hb⟩ => ⟨he, ?_⟩
  exact ⟨hb.os.trans e2, hb.tape.trans e3, hb.output.trans e4, by rw [← e1]; exact hb.size, fun k hk => (hb.block k (by rw [e1]; exact hk)).trans (hh k)⟩

/-- A region that draws its order, over a family of worlds in which each operation gives one value. -/
theorem wp_region_family {P : Program} {id : Nat} {Q : Exit → Act → World → Prop} {a : Act} {w : World} {l : List Oper} {T : Type} (f : T → World) (hm : P.follows .mixedOrders = true) (hB : Region.lexB .any l.toArray = true) (hC : ∃ x, w.drew = f x)
    (h : wpQuiet P l.toArray (fun w' => ∃ x, w' = f x) (fun a' => ∀ w', (∃ x, w' = f x) → Q .normal a' w') l a) : (Code.region id l.toArray true).wp P Q a w :=
  wp_region_quiet (C := fun w' => ∃ x, w' = f x) hm hB hC (by simpa using h)

theorem later_family (w : World) (S : Nat → Prop) (d nb sb N L : Nat) (A : Disk) (D : DataW Unit) (hNL : N * L ≤ 4611686018427387903) (h : DiskIn w S d nb sb N L A) (hD : NamesAre w nb N A D) :
    ∃ (T : Type) (fw : T → World), (∀ x, (fw x).cell? ⟨d, 0, none⟩ = some (.int .i64 A.room)) ∧ (∀ x, (fw x).cell? ⟨d, 1, none⟩ = some (.map (some nb))) ∧
      (∀ x, (Builtin.len_ #[54] 3 #[.map (some nb)]).run Try.prog (fw x) = .ok (.int .i64 (Maps.size D)) (fw x)) ∧
      (∀ x, Calls Try.prog 22 #[.pointer (some ⟨d, 0, none⟩)] (fw x) fun e w' => e = .returned (.int .i64 (usedOf D A)) ∧ ∃ y, w' = fw y) ∧ (∀ x, Below w.heap.size w (fw x)) ∧ ∃ x, w.drew = fw x := by
  have hin : ∀ x : { W : World // Below w.heap.size w W }, DiskIn x.1 S d nb sb N L A := fun x => h.beside x.2
  have hnm : ∀ x : { W : World // Below w.heap.size w W }, NamesAre x.1 nb N A D := fun x => ⟨ownsMap_block hD.own (x.2.block _ hD.own.lt), hD.has, hD.at_⟩
  refine ⟨{ W : World // Below w.heap.size w W }, Subtype.val, fun x => (hin x).cells.1 0, fun x => (hin x).cells.1 1, fun x => (hnm x).own.len Try.underlying54 3, fun x => ?_, fun x => x.2, ⟨w.drew, (Below.refl _ _).drew⟩, rfl⟩
  exact (used_is x.1 S d nb sb N L A D hNL (hin x) (hnm x)).mono fun e w' ⟨he, hb⟩ => ⟨he, ⟨w', x.2.trans (hb.mono x.2.size)⟩, rfl⟩

theorem ReadsInt.keeps {w w' : World} {S : Nat → Prop} {k : IntKind} {A : Option Addr} {n : Nat} {xs : List Int} (h : ReadsInt w k A n xs) (hk : Keeps S w w') (hP : ∀ a, A = some a → ¬ S a.block) : ReadsInt w' k A n xs :=
  ⟨h.1, h.2.1, fun hn => by
    obtain ⟨ad, e, hc⟩ := h.2.2 hn
    refine ⟨ad, e, fun j hj => ?_⟩
    have h1 := hc j hj
    have h2 := World.block_lt_of_cell? w _ h1
    rw [add_block] at h2
    rw [World.cell?_of_block (w := w) (a := ad.add j) (by rw [add_block]; exact hk.block _ h2 (hP ad e))]
    exact h1⟩

theorem more_keep {w w' : World} {S : Nat → Prop} {d nb sb N L : Nat} {A : Disk} (h : DiskIn w' S d nb sb N L A) : DiskIn w' (more S w) d nb sb N L A := h.keep (fun _ _ _ => rfl) (fun _ hk => .inl hk)

set_option maxHeartbeats 4000000 in
set_option maxRecDepth 100000 in
/-- Behind a file that is there. -/
theorem append_some (w : World) (S : Nat → Prop) (d nb sb N L : Nat) (B : Disk) (s : ByteArray) (b : List UInt8) (P : Option Addr) (c : Nat) (f : Nat) (hs : s.size ≤ maxLen) (hNL : N * L ≤ 4611686018427387903) (hL : L + b.length ≤ 1152921504606) (hr : ReadsInt w .u8 P b.length (ints b))
    (hst : Calls Try.prog 24 #[.pointer (some ⟨d, 0, none⟩)] w fun e w' => e = .returned (.int .i64 0) ∧ DiskIn w' S d nb sb N L B ∧ Keeps S w w' ∧ w'.heap.size = w.heap.size) (hm : B.names s.data.toList = some f) (hPS : ∀ a, P = some a → ¬ S a.block) :
    Calls Try.prog 8 #[.pointer (some ⟨d, 0, none⟩), .string s, .slice P b.length c] w (AppendPost w S d nb sb N L (B, 0) s b) := by
  have HR := Aside0.mk hr
  have hbl := Nat.le_trans (Nat.le_add_left b.length L) hL
  have HP := Aside0.mk hPS
  clear hr hPS
  go_enter Try.func8, Try.ntmps8
  go_wp2_with fail
  refine hst.mono ?_
  rintro e w1 ⟨rfl, hin, hk, hsz⟩
  have HI := Aside0.mk hin
  have HK := Aside0.mk hk
  have HZ := Aside0.mk hsz
  have c1 : w1.cell? ⟨d, 1, none⟩ = some (.map (some nb)) := hin.cells.1 1
  have hl := hin.names.look s hs
  clear hk hsz hin hst
  rw [hm, ptr_some] at hl
  have HM := Aside0.mk hm
  clear hm
  go_wp2_with fail
  refine (name_full s w1).mono ?_
  rintro e w2 ⟨ok, rfl, hok, hb⟩
  have HOK := Aside0.mk hok
  have HI2 := Aside0.mk (HI.out.beside hb)
  have HB12 := Aside0.mk hb
  have HK2 := Aside0.mk (HK.out.trans (Keeps.of_new (S := fun _ => False) hb) (fun i hi => hi.elim))
  clear hl hb hok c1
  cases ok with
  | false =>
    go_wp2
    go_ret
    refine ⟨false, false, w.heap.size, HOK.out, fun _ _ => rfl, Nat.le_refl _, ?_⟩
    exact ⟨rfl, more_keep (HI2.out.mono (Nat.le_succ _) (Nat.le_add_right _ _)), HK2.out⟩
  | true =>
    obtain ⟨D, hD⟩ := HI2.out.namesAre
    have hU := usedOf_le HI2.out hD
    obtain ⟨T, fw, k0, k1, klen, kused, kb, ⟨x0, hx0⟩⟩ := later_family w2 S d nb sb N L B D hNL HI2.out hD
    generalize usedOf D B = U at *
    clear hD klen k1
    haveI : Nonempty T := ⟨x0⟩
    have KU := Aside0.mk kused
    have KB := Aside0.mk kb
    have KX := Aside0.mk hx0
    clear kused kb hx0
    have hwr : IntKind.i64.wrap ((U : Int) + (b.length : Int)) = (U : Int) + (b.length : Int) := IntWalk.i64_in _ (by omega)
    go_upto_region 7 with fail
    go_cut [24] (fun s24 wx => s24 = .bool (decide (B.room < (U : Int) + (b.length : Int))) ∧ Below w2.heap.size w2 wx)
    case first =>
      by_cases hbig : B.room < (U : Int) + (b.length : Int)
      all_goals
        first | have hbg : decide (B.room < (U : Int) + (b.length : Int)) = true := decide_eq_true hbig | have hbg : decide (B.room < (U : Int) + (b.length : Int)) = false := decide_eq_false hbig
        clear hbig
        refine wp_region_family fw (by kernel_rfl) (by kernel_rfl) ⟨x0, KX.out⟩ ?_
        repeat (first | go_big_quiet_step ((go_at_call 22; exact KU.out _)) | quiet_step (fail))
        refine wpQuiet_nil ?_
        rintro w' ⟨x, rfl⟩
        go_wp2
        go_meet
        exact ⟨by rw [hbg], KB.out x⟩
    case rest =>
      obtain ⟨rfl, hbc⟩ := hcut
      clear hwr k0
      have HI3 := Aside0.mk (HI2.out.beside hbc)
      have HK3 := Aside0.mk (HK2.out.trans (Keeps.of_new (S := fun _ => False) hbc) (fun i hi => hi.elim))
      have HBC := Aside0.mk hbc
      clear hbc
      have hnf : (N * L + b.length : Nat) ≤ B.room → decide (B.room < (U : Int) + (b.length : Int)) = false := fun h => decide_eq_false (by omega)
      have HNF := Aside0.mk hnf
      clear hnf
      cases hq : decide (B.room < (U : Int) + (b.length : Int)) with
      | true =>
        rw [hq] at HNF
        clear hq
        go_wp2
        go_ret
        refine ⟨true, true, w.heap.size, fun _ => rfl, fun h _ => HNF.out h, Nat.le_refl _, ?_⟩
        exact ⟨rfl, more_keep (HI3.out.mono (Nat.le_succ _) (Nat.le_add_right _ _)), HK3.out⟩
      | false =>
        clear hq
        have hf : B.refs f := ⟨_, .inl HM.out⟩
        obtain ⟨a, cc, c0, c4, f0, f1, hfb, hby, hle, hfL⟩ := HI3.out.file_cells hf
        have HFF := Aside0.mk (HI3.out.files f hf)
        have HF := Aside0.mk hf
        have HBY := Aside0.mk hby
        have HFB := Aside0.mk (And.intro hfb (And.intro hle hfL))
        have hfl : (B.file f).1.length ≤ 1152921504606 := by omega
        have hsum : (B.file f).1.length + b.length ≤ 1152921504606 := by omega
        clear hf hby hfb hle hfL c4 f1
        go_wp2_with fail
        refine (clone_any wc S _ _ HBY.out hfl).mono ?_
        rintro e w4 ⟨v', rfl, hown, hb4⟩
        have hlt : f < wc.heap.size := blk_lt HFB.out.1
        have HB4 := Aside0.mk hb4
        have HO4 := Aside0.mk hown
        have HR4 := Aside0.mk ((ReadsInt.keeps HR.out HK3.out HP.out).below hb4)
        have HL4 := Aside0.mk hb4.size
        have HLT := Aside0.mk hlt
        have HSUM := Aside0.mk hsum
        have f5 : ∀ w5, Below wc.heap.size w4 w5 → w5.frozen? ⟨f, 0, none⟩ = false := fun w5 h5 => by
          rw [World.frozen?_of_block (w := wc) ((h5.block f hlt).trans (hb4.block f hlt))]
          exact f0
        have HF5 := Aside0.mk f5
        have c5 : ∀ w5, Below wc.heap.size w4 w5 → w5.cell? ⟨f, 0, none⟩ = some (.slice a (B.file f).1.length cc) := fun w5 h5 => by
          rw [World.cell?_of_block (w := wc) ((h5.block f hlt).trans (hb4.block f hlt))]
          exact c0
        have HC5 := Aside0.mk c5
        clear hb4 hown f5 c5 hsum hlt
        go_wp2_with (at_builtin; refine print_append_row (w0 := w4) wc.heap.size rfl (.tmp 63) (.tmp 64) 31 5 .u8 1 rfl Try.underlying31 info5 (by decide) v' (ints (B.file f).1) (ints b) P b.length c rfl rfl (by rw [ints_length]; exact HO4.out) HR4.out (Below.refl _ _) HL4.out (by have := HSUM.out; rw [ints_length]; omega) ?_; intro v1 w5 hown5 hb5 hg5 hat5; obtain ⟨A1, cA, rfl⟩ := own_slice hown5; have cc5 := HC5.out w5 hb5; have ff5 := HF5.out w5 hb5; have HO5 := Aside0.mk hown5; have HB5 := Aside0.mk hb5; clear hown5 hb5 hg5 hat5)
        go_ret
        have hlen : (ints (B.file f).1 ++ ints b).length = ((B.file f).1 ++ b).length := by simp [ints]
        have hb35 : Below wc.heap.size wc w5 := HB4.out.trans HB5.out
        have hwc : w.heap.size ≤ wc.heap.size := HK3.out.size
        have hS : ∀ k, wc.heap.size ≤ k → more S w k := fun k hk => .inr (by omega)
        have hby5 : BytesAt w5 (fun k => wc.heap.size ≤ k) (.slice A1 (ints (B.file f).1 ++ ints b).length cA) ((B.file f).1 ++ b) := BytesAt.of_own (base := wc.heap.size) (by have := HO5.out; rw [← ints_append] at this ⊢; rwa [ints_length] at this ⊢) (fun k hk => own_base HO5.out k hk)
        have hb5 : w5.heap[f]? = some (.cells #[.slice a (B.file f).1.length cc, .int .i64 ((B.file f).2 : Int)] 60 (0, 0)) := (hb35.block f HLT.out).trans HFB.out.1
        have hfile : FileAt (w5.setCell ⟨f, 0, none⟩ (.slice A1 (ints (B.file f).1 ++ ints b).length cA)) (more S w) f (L + b.length) ((B.file f).1 ++ b, (B.file f).2) := by
          refine ⟨.inl HFF.out.1, _, blk_put hb5 0 _ rfl, hby5.keep (fun k hk _ => Below.heap_setCell _ _ _ _ (by have := HLT.out; show k ≠ f; omega)) hS, ?_, ?_⟩
          · have := HFB.out.2.1
            simp; omega
          · have := HFB.out.2.2
            simp; omega
        rw [List.length_append] at hfile
        refine ⟨true, false, w.heap.size, fun _ => rfl, fun _ _ => rfl, Nat.le_refl _, ?_⟩
        have e1 : B.append1 true false w.heap.size s.data.toList b = (B.setFile f ((B.file f).1 ++ b, (B.file f).2), 0) := by unfold Disk.append1; simp [HM.out]
        simp only [ne_eq, not_true_eq_false, if_false, e1]
        refine ⟨rfl, ?_, ((HK3.out.trans (Keeps.of_new (S := fun _ => False) hb35) (fun i hi => hi.elim))).setCell (.inl HFF.out.1) _⟩
        exact ((more_keep (w := w) (HI3.out.beside hb35)).mono (Nat.le_succ N) (Nat.le_refl L)).filed HF.out (Nat.le_add_right _ _) hfile (fun k hk _ => Below.heap_setCell _ _ _ _ hk)

end Go.Proofs.Ytolpgajodhondaa
