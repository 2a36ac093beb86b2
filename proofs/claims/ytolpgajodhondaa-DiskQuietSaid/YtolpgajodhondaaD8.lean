/- A disk's names made sure; a file's bytes read. -/
import Derived.Test.YtolpgajodhondaaD7
namespace Go.Proofs.Ytolpgajodhondaa
open Go.RowKit Go.Maps Go.Sort Go.WideMaps Go.Proofs.YtolpgajodhondaaW.PrintWords

theorem mapClone_any (w : World) (b n : Nat) (m : List UInt8 → Option Nat) (h : MapAt w b n m) :
    Calls Try.prog 27 #[.map (some b)] w fun e w' => e = .returned (.map (some w.heap.size)) ∧ MapAt w' w.heap.size n m ∧ Below w.heap.size w w' := by
  obtain ⟨D, hown, r⟩ := h
  exact (AnyW.maps_Clone_owns Try.clone27 9 ptrElem b n D w hown).mono fun e w' ⟨he, h1, _, h3⟩ => ⟨he, ⟨D, h1, r⟩, h3⟩

def more (S : Nat → Prop) (w : World) : Nat → Prop := fun k => S k ∨ w.heap.size ≤ k

def Disk.syncNames (A : Disk) : Disk × Int := if A.step.2 ≠ 0 then A.step else ({ A.step.1 with sure := A.step.1.names }, 0)

def SyncNamesPost (w : World) (S : Nat → Prop) (d nb N L : Nat) (st : Disk × Int) (e : Ending) (w' : World) : Prop :=
  ∃ sb', e = .returned (.int .i64 (if st.2 ≠ 0 then st else ({ st.1 with sure := st.1.names }, 0)).2) ∧ DiskIn w' (more S w) d nb sb' N L (if st.2 ≠ 0 then st else ({ st.1 with sure := st.1.names }, 0)).1 ∧ Keeps S w w'

set_option maxHeartbeats 1000000 in
theorem syncNames_any (w : World) (S : Nat → Prop) (d nb sb N L : Nat) (A : Disk) (h : DiskIn w S d nb sb N L A) :
    Calls Try.prog 10 #[.pointer (some ⟨d, 0, none⟩)] w (SyncNamesPost w S d nb N L A.step) := by
  have hst := step_any w S d nb sb N L A h
  generalize A.step = st at *
  obtain ⟨B, r⟩ := st
  by_cases hr : r = 0
  · subst hr
    go_enter Try.func10, Try.ntmps10
    go_wp2_with fail
    refine hst.mono ?_
    rintro e w1 ⟨rfl, hin, hk, hsz⟩
    have HI := Aside0.mk hin
    have HK := Aside0.mk hk
    have HZ := Aside0.mk hsz
    have c1 : w1.cell? ⟨d, 1, none⟩ = some (.map (some nb)) := hin.cells.1 1
    have hnm := hin.names
    clear hk hsz hin
    go_wp2_with fail
    refine (mapClone_any w1 nb N B.names hnm).mono ?_
    rintro e w2 ⟨rfl, hm, hb⟩
    have HI2 := Aside0.mk (HI.out.beside hb)
    have HB := Aside0.mk hb
    have f2 := HI2.out.cells.2 2
    have c2 : w2.cell? ⟨d, 2, none⟩ = some (.map (some sb)) := HI2.out.cells.1 2
    clear hb
    go_wp2
    go_ret
    refine ⟨w1.heap.size, rfl, ?_, ?_⟩
    · simp only [ne_eq, not_true_eq_false, if_false]
      have hdn : ∀ k, k ≠ d → (w2.setCell ⟨d, 2, none⟩ (.map (some w1.heap.size))).heap[k]? = w2.heap[k]? := fun k hk => Below.heap_setCell _ _ _ _ hk
      have hd : d < w1.heap.size := blk_lt HI.out.blk
      refine ⟨.inl HI.out.sd, .inl HI.out.sn, .inr (by rw [HZ.out]; exact Nat.le_refl _), fun e => by have := HI.out.names.lt; omega, blk_put HI2.out.blk 2 _ rfl, HI2.out.names.keep (hdn _ (Ne.symm HI.out.d_ne_n)), hm.keep (hdn _ (by omega)), fun f hf => ?_⟩
      have hf' : B.refs f := by
        obtain ⟨k, hk | hk⟩ := hf
        · exact ⟨k, .inl hk⟩
        · exact ⟨k, .inl hk⟩
      have hF := HI2.out.files f hf'
      exact (hF.apart (FileAt.ne_d HI2.out hF) HI2.out.not5).keep (fun k hk _ => hdn k hk.2) (fun k hk => .inl hk.1)
    · exact (HK.out.trans (Keeps.of_new (S := fun _ => False) HB.out) (fun i hi => hi.elim)).setCell (.inl HI.out.sd) _
  · have hr' : (r != 0) = true := by rw [bne_iff_ne]; exact hr
    have hr2 : r ≠ 0 := hr
    clear hr
    go_enter Try.func10, Try.ntmps10
    go_wp2_with (go_at_call 24; refine hst.mono ?_; rintro e w1 ⟨rfl, hin, hk, hsz⟩)
    go_ret
    refine ⟨sb, ?_⟩
    rw [if_pos (by simpa using hr2)]
    exact ⟨rfl, hin.keep (fun _ _ _ => rfl) (fun k hk => .inl hk), hk⟩

/-! ### Read -/
def ReadPost (w : World) (A : Disk) (k : List UInt8) (e : Ending) (w' : World) : Prop :=
  ∃ v, Below w.heap.size w w' ∧
    ((A.down = true ∧ e = .returned (.tuple #[v, .int .i64 11]) ∧ v = .slice none 0 0) ∨ (A.down = false ∧ A.names k = none ∧ e = .returned (.tuple #[v, .int .i64 3]) ∧ v = .slice none 0 0) ∨
      (A.down = false ∧ ∃ f, A.names k = some f ∧ e = .returned (.tuple #[v, .int .i64 0]) ∧ w'.ownsRow w.heap.size 5 1 v (A.file f).1.length (nums .u8 (ints (A.file f).1))))

set_option maxHeartbeats 1000000 in
theorem read_any (w : World) (S : Nat → Prop) (d nb sb N L : Nat) (A : Disk) (s : ByteArray) (hs : s.size ≤ maxLen) (hL : L ≤ 1152921504606) (h : DiskIn w S d nb sb N L A) :
    Calls Try.prog 15 #[.pointer (some ⟨d, 0, none⟩), .string s] w (ReadPost w A s.data.toList) := by
  have HI := Aside0.mk h
  have c5 : w.cell? ⟨d, 5, none⟩ = some (.bool A.down) := h.cells.1 5
  have c1 : w.cell? ⟨d, 1, none⟩ = some (.map (some nb)) := h.cells.1 1
  have hl := h.names.look s hs
  cases hd : A.down with
  | true =>
    rw [hd] at c5
    clear h hl
    have HD := Aside0.mk hd
    clear hd
    go_enter Try.func15, Try.ntmps15
    go_wp2
    go_ret2
    exact ⟨_, Below.refl _ _, .inl ⟨HD.out, rfl, rfl⟩⟩
  | false =>
    rw [hd] at c5
    have HD := Aside0.mk hd
    clear hd
    cases hm : A.names s.data.toList with
    | none =>
      rw [hm, ptr_none] at hl
      have HM := Aside0.mk hm
      clear hm h
      go_enter Try.func15, Try.ntmps15
      go_wp2
      go_ret2
      exact ⟨_, Below.refl _ _, .inr (.inl ⟨HD.out, HM.out, rfl, rfl⟩)⟩
    | some f =>
      rw [hm, ptr_some] at hl
      have HM := Aside0.mk hm
      obtain ⟨a, c, c0, c2, f0, f1, hb, hby, hle, hL'⟩ := h.file_cells ⟨_, .inl hm⟩
      have HBY := Aside0.mk hby
      have HL := Aside0.mk (Nat.le_trans hL' hL)
      clear hm h hby hb hle hL'
      go_enter Try.func15, Try.ntmps15
      go_wp2_with (go_at_call 26; refine (clone_any w S _ _ HBY.out HL.out).mono ?_; rintro e w2 ⟨v', rfl, hown, hb⟩)
      go_ret2
      exact ⟨_, hb, .inr (.inr ⟨HD.out, f, HM.out, rfl, hown⟩)⟩

end Go.Proofs.Ytolpgajodhondaa
