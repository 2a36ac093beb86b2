/- A disk's bytes: cloned, put behind a file's, made sure, read. -/
import Derived.Test.YtolpgajodhondaaD5
namespace Go.Proofs.Ytolpgajodhondaa
open Go.RowKit Go.Maps Go.Sort Go.WideMaps Go.Proofs.YtolpgajodhondaaW.PrintWords

theorem info5 : (Try.prog.info? 5).map (fun i => (i.zero, i.size, i.bytes)) = some (some (.int .u8 0), 1, 1) := by kernel_rfl

theorem clone_any (w : World) (S : Nat → Prop) (v : Value) (l : List UInt8) (h : BytesAt w S v l) (hl : l.length ≤ 1152921504606) :
    Calls Try.prog 26 #[v] w fun e w' => ∃ v', e = .returned v' ∧ w'.ownsRow w.heap.size 5 1 v' l.length (nums .u8 (ints l)) ∧ Below w.heap.size w w' := by
  rcases h with ⟨rfl, rfl⟩ | ⟨b, off, c, cur, fr, rfl, h2, h3, h5, h6, h7⟩
  · exact (AnyE.slices_Clone_nil Try.clone26 0 0 w).mono fun e w' ⟨he, hw⟩ => ⟨_, he, hw ▸ own_nil _ _ _ _, hw ▸ Below.refl _ _⟩
  · obtain ⟨i0, hi, hz0, hz1, hz2⟩ := info_parts info5
    refine (AnyE.slices_Clone Try.clone26 i0 (.int .u8 0) 1 1 hi hz0 hz1 hz2 rfl (by decide) (fun w => by kernel_rfl) b off l.length c (nums .u8 (ints l)) w (by simp [nums, ints]) (by unfold maxLen at *; omega) (by omega) ?_ ?_).mono fun e w' ⟨v', he, hown, _, hb⟩ => ⟨v', he, hown, hb⟩
    · intro j u hj
      have hjl : j < l.length := by
        rcases Nat.lt_or_ge j l.length with h | h
        · exact h
        · simp [nums, ints, List.getElem?_eq_none h] at hj
      rw [h7 j hjl]
      simp [nums, ints, List.getElem?_eq_getElem hjl] at hj
      simp [← hj, List.getD_eq_getElem?_getD, List.getElem?_eq_getElem hjl]
    · intro u hu
      simp only [nums, List.mem_map] at hu
      obtain ⟨q, _, rfl⟩ := hu
      rfl

/-! ### Sync -/
def Disk.setFile (A : Disk) (f : Nat) (x : List UInt8 × Nat) : Disk := { A with file := fun i => if i = f then x else A.file i }

def Disk.sync1 (B : Disk) (k : List UInt8) : Disk × Int :=
  match B.names k with
  | none => (B, 3)
  | some f => (B.setFile f ((B.file f).1, (B.file f).1.length), 0)
def Disk.sync (A : Disk) (k : List UInt8) : Disk × Int := if A.step.2 ≠ 0 then A.step else A.step.1.sync1 k

section
variable {w : World} {S : Nat → Prop} {d nb sb N L : Nat} {A : Disk}
theorem DiskIn.file_cells (h : DiskIn w S d nb sb N L A) {f : Nat} (hf : A.refs f) : ∃ (a : Option Addr) (c : Nat), w.cell? ⟨f, 0, none⟩ = some (.slice a (A.file f).1.length c) ∧ w.cell? ⟨f, 1, none⟩ = some (.int .i64 ((A.file f).2 : Int)) ∧ w.frozen? ⟨f, 0, none⟩ = false ∧ w.frozen? ⟨f, 1, none⟩ = false ∧
    w.heap[f]? = some (.cells #[.slice a (A.file f).1.length c, .int .i64 ((A.file f).2 : Int)] 60 (0, 0)) ∧ BytesAt w S (.slice a (A.file f).1.length c) (A.file f).1 ∧ (A.file f).2 ≤ (A.file f).1.length ∧ (A.file f).1.length ≤ L := by
  obtain ⟨_, v, h2, h3, h4, h5⟩ := h.files f hf
  obtain ⟨a, c, rfl, _, _⟩ := h3.len
  exact ⟨a, c, blk_cell h2 0, blk_cell h2 1, blk_frozen h2 0, blk_frozen h2 1, h2, h3, h4, h5⟩
end

set_option maxHeartbeats 1000000 in
theorem sync_any (w : World) (S : Nat → Prop) (d nb sb N L : Nat) (A : Disk) (s : ByteArray) (hs : s.size ≤ maxLen) (h : DiskIn w S d nb sb N L A) :
    Calls Try.prog 9 #[.pointer (some ⟨d, 0, none⟩), .string s] w fun e w' => e = .returned (.int .i64 (A.sync s.data.toList).2) ∧ DiskIn w' S d nb sb N L (A.sync s.data.toList).1 ∧ Keeps S w w' ∧ w'.heap.size = w.heap.size := by
  have hst := step_any w S d nb sb N L A h
  unfold Disk.sync
  generalize A.step = st at *
  obtain ⟨B, r⟩ := st
  by_cases hr : r = 0
  · subst hr
    simp only [ne_eq, not_true_eq_false, if_false]
    go_enter Try.func9, Try.ntmps9
    go_wp2_with fail
    refine hst.mono ?_
    rintro e w1 ⟨rfl, hin, hk, hsz⟩
    have HI := Aside0.mk hin
    have HK := Aside0.mk hk
    have HZ := Aside0.mk hsz
    have c1 : w1.cell? ⟨d, 1, none⟩ = some (.map (some nb)) := hin.cells.1 1
    have hl := hin.names.look s hs
    have HD := Aside0.mk (show B.sync1 s.data.toList = _ from rfl)
    unfold Disk.sync1 at HD
    clear hk hsz
    cases hm : B.names s.data.toList with
    | none =>
      rw [hm] at hl
      have e1 : B.sync1 s.data.toList = (B, 3) := by unfold Disk.sync1; rw [hm]
      have HE := Aside0.mk e1
      clear HD e1 hm hin
      rw [ptr_none] at hl
      go_wp2
      go_ret
      rw [HE.out]
      exact ⟨rfl, HI.out, HK.out, HZ.out⟩
    | some f =>
      rw [hm] at hl
      have e1 : B.sync1 s.data.toList = (B.setFile f ((B.file f).1, (B.file f).1.length), 0) := by unfold Disk.sync1; rw [hm]
      have HE := Aside0.mk e1
      have hf : B.refs f := ⟨_, .inl hm⟩
      obtain ⟨a, c, c0, c2, f0, f1, hb, hby, hle, hL⟩ := hin.file_cells hf
      have HB := Aside0.mk (And.intro hb (And.intro hby (And.intro hle hL)))
      have HF := Aside0.mk hf
      have hSf : S f := (hin.files f hf).1
      clear HD e1 hm hin hb hby hle hL hf
      rw [ptr_some] at hl
      go_wp2
      go_ret
      rw [HE.out]
      obtain ⟨hb, hby, hle, hL⟩ := HB.out
      refine ⟨rfl, HI.out.filed HF.out (Nat.le_refl _) ⟨hSf, _, blk_put hb 1 _ rfl, ?_, Nat.le_refl _, hL⟩ (fun k hk _ => Below.heap_setCell _ _ _ _ hk), HK.out.setCell (.inl hSf) _, by simpa using HZ.out⟩
      exact (hby.apart (FileAt.not5 ⟨hSf, _, hb, hby, hle, hL⟩)).keep (fun k hk _ => Below.heap_setCell _ _ _ _ hk.2) (fun k hk => hk.1)
  · have hr' : (r != 0) = true := by rw [bne_iff_ne]; exact hr
    rw [if_pos (by simpa using hr)]
    clear hr
    go_enter Try.func9, Try.ntmps9
    go_wp2_with (go_at_call 24; refine hst.mono ?_; rintro e w1 ⟨rfl, hin, hk, hsz⟩)
    go_ret
    exact ⟨rfl, hin, hk, hsz⟩

end Go.Proofs.Ytolpgajodhondaa
