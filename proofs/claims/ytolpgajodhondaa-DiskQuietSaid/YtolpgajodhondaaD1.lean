/- The disk's step: whether the power lasts. -/
import Derived.Test.YtolpgajodhondaaBase
namespace Go.Proofs.Ytolpgajodhondaa
open Go.RowKit Go.Maps Go.Sort Go.WideMaps Go.Proofs.YtolpgajodhondaaW.PrintWords

def Disk.step (A : Disk) : Disk × Int :=
  if A.down = true then (A, 11) else if A.fuse = 0 then ({ A with down := true }, 11)
  else ({ A with fuse := if 0 < A.fuse then wrap64 (A.fuse - 1) else A.fuse, steps := wrap64 (A.steps + 1) }, 0)

section
variable {w : World} {S : Nat → Prop} {d nb sb N L : Nat} {A : Disk}
theorem DiskIn.cells (h : DiskIn w S d nb sb N L A) : (∀ i, w.cell? ⟨d, i, none⟩ = (diskCells A nb sb)[i]?) ∧ ∀ i, w.frozen? ⟨d, i, none⟩ = false :=
  ⟨fun i => blk_cell h.blk i, fun i => blk_frozen h.blk i⟩
end

set_option maxHeartbeats 1000000 in
theorem step_any (w : World) (S : Nat → Prop) (d nb sb N L : Nat) (A : Disk) (h : DiskIn w S d nb sb N L A) :
    Calls Try.prog 24 #[.pointer (some ⟨d, 0, none⟩)] w fun e w' => e = .returned (.int .i64 A.step.2) ∧ DiskIn w' S d nb sb N L A.step.1 ∧ Keeps S w w' ∧ w'.heap.size = w.heap.size := by
  have H := Aside0.mk h
  have c3 : w.cell? ⟨d, 3, none⟩ = some (.int .i64 A.fuse) := h.cells.1 3
  have c4 : w.cell? ⟨d, 4, none⟩ = some (.int .i64 A.steps) := h.cells.1 4
  have c5 : w.cell? ⟨d, 5, none⟩ = some (.bool A.down) := h.cells.1 5
  have f3 := h.cells.2 3
  have f4 := h.cells.2 4
  have f5 := h.cells.2 5
  clear h
  by_cases hd : A.down = true
  · rw [hd] at c5
    go_enter Try.func24, Try.ntmps24
    go_wp2
    go_ret
    have e : A.step = (A, 11) := if_pos hd
    rw [e]
    exact ⟨rfl, H.out, Keeps.refl _ _, rfl⟩
  · have hd0 : A.down = false := by simpa using hd
    rw [hd0] at c5
    clear hd
    by_cases hz : A.fuse = 0
    · have b1 : (A.fuse == 0) = true := beq_iff_eq.2 hz
      have e : A.step = ({ A with down := true }, 11) := by simp [Disk.step, hd0, hz]
      have HE := Aside0.mk e
      have HZ := Aside0.mk hz
      have HD := Aside0.mk hd0
      clear e hz hd0
      go_enter Try.func24, Try.ntmps24
      go_wp2
      go_ret
      rw [HE.out]
      refine ⟨rfl, H.out.own ?_ (fun k hk _ => Below.heap_setCell _ _ _ _ hk) rfl rfl rfl, (Keeps.refl _ _).setCell (.inl H.out.sd) _, by simp⟩
      rw [blk_put H.out.blk 5 (.bool true) (cs' := diskCells { A with down := true } nb sb) rfl]
    · have b1 : (A.fuse == 0) = false := beq_eq_false_iff_ne.2 hz
      by_cases hp : 0 < A.fuse
      · have e : A.step = ({ A with fuse := wrap64 (A.fuse - 1), steps := wrap64 (A.steps + 1) }, 0) := by simp [Disk.step, hd0, hz, hp]
        have HE := Aside0.mk e
        have HD := Aside0.mk hd0
        clear e hz hd0
        go_enter Try.func24, Try.ntmps24
        go_wp2
        go_ret
        rw [HE.out]
        refine ⟨rfl, H.out.own ?_ (fun k hk _ => ?_) rfl rfl rfl, ((Keeps.refl _ _).setCell (.inl H.out.sd) _).setCell (.inl H.out.sd) _, by simp⟩
        · exact blk_put (blk_put H.out.blk 3 _ rfl) 4 _ rfl
        · rw [Below.heap_setCell _ _ _ _ hk, Below.heap_setCell _ _ _ _ hk]
      · have e : A.step = ({ A with fuse := A.fuse, steps := wrap64 (A.steps + 1) }, 0) := by simp [Disk.step, hd0, hz, hp]
        have HE := Aside0.mk e
        have HD := Aside0.mk hd0
        clear e hz hd0
        go_enter Try.func24, Try.ntmps24
        go_wp2
        go_ret
        rw [HE.out]
        refine ⟨rfl, H.out.own ?_ (fun k hk _ => ?_) rfl rfl rfl, (Keeps.refl _ _).setCell (.inl H.out.sd) _, by simp⟩
        · exact blk_put H.out.blk 4 _ rfl
        · rw [Below.heap_setCell _ _ _ _ hk]

theorem down_any (w : World) (S : Nat → Prop) (d nb sb N L : Nat) (A : Disk) (h : DiskIn w S d nb sb N L A) :
    Calls Try.prog 18 #[.pointer (some ⟨d, 0, none⟩)] w fun e w' => e = .returned (.bool A.down) ∧ w' = w := by
  have c5 : w.cell? ⟨d, 5, none⟩ = some (.bool A.down) := h.cells.1 5
  clear h
  go_enter Try.func18, Try.ntmps18
  go_wp2
  go_ret
  exact ⟨rfl, rfl⟩

theorem steps_any (w : World) (S : Nat → Prop) (d nb sb N L : Nat) (A : Disk) (h : DiskIn w S d nb sb N L A) :
    Calls Try.prog 19 #[.pointer (some ⟨d, 0, none⟩)] w fun e w' => e = .returned (.int .i64 A.steps) ∧ w' = w := by
  have c5 : w.cell? ⟨d, 4, none⟩ = some (.int .i64 A.steps) := h.cells.1 4
  clear h
  go_enter Try.func19, Try.ntmps19
  go_wp2
  go_ret
  exact ⟨rfl, rfl⟩

theorem fuse_any (w : World) (S : Nat → Prop) (d nb sb N L : Nat) (A : Disk) (n : Int) (h : DiskIn w S d nb sb N L A) :
    Calls Try.prog 11 #[.pointer (some ⟨d, 0, none⟩), .int .i64 n] w fun e w' => e = .returned (.tuple #[]) ∧ DiskIn w' S d nb sb N L { A with fuse := n } ∧ Keeps S w w' ∧ w'.heap.size = w.heap.size := by
  have H := Aside0.mk h
  have c5 : w.cell? ⟨d, 3, none⟩ = some (.int .i64 A.fuse) := h.cells.1 3
  have f5 := h.cells.2 3
  clear h
  go_enter Try.func11, Try.ntmps11
  go_wp2
  go_end0
  refine ⟨rfl, H.out.own ?_ (fun k hk _ => Below.heap_setCell _ _ _ _ hk) rfl rfl rfl, (Keeps.refl _ _).setCell (.inl H.out.sd) _, by simp⟩
  exact blk_put H.out.blk 3 _ rfl

def fresh (room : Int) : Disk := { room, fuse := -1, steps := 0, down := false, names := fun _ => none, sure := fun _ => none, file := fun _ => ([], 0) }

theorem new_any (w : World) (room : Int) (h0 : 0 ≤ room) (h1 : room ≤ 1048576) :
    Calls Try.prog 6 #[.int .i64 room] w fun e w' => ∃ d nb sb, e = .returned (.tuple #[.pointer (some ⟨d, 0, none⟩), .int .i64 0]) ∧ DiskIn w' (fun k => w.heap.size ≤ k) d nb sb 0 0 (fresh room) ∧ Below w.heap.size w w' := by
  have hmm := @run_makeMap Try.prog
  have a1 : decide (room < 0) = false := decide_eq_false (by omega)
  have a2 : decide (1048576 < room) = false := decide_eq_false (by omega)
  go_enter Try.func6, Try.ntmps6
  go_wp2
  go_ret2
  have m1 : MapAt (w.alloc (.map #[] 0)) w.heap.size 0 (fun _ => none) := MapAt.made w
  have m2 : MapAt ((w.alloc (.map #[] 0)).alloc (.map #[] 0)) (w.heap.size + 1) 0 (fun _ => none) := by
    have := MapAt.made (w.alloc (.map #[] 0))
    simpa using this
  refine ⟨w.heap.size + 2, w.heap.size, w.heap.size + 1, by simp, ⟨?_, Nat.le_refl _, Nat.le_succ _, by omega, ?_, ?_, ?_, ?_⟩, ?_⟩
  · show w.heap.size ≤ w.heap.size + 2
    omega
  · have := heap_alloc_new ((w.alloc (.map #[] 0)).alloc (.map #[] 0)) (.cells (diskCells (fresh room) w.heap.size (w.heap.size + 1)) 56)
    simpa [diskCells, fresh] using this
  · exact m1.keep (by rw [Below.heap_alloc _ _ _ (by simp; omega), Below.heap_alloc _ _ _ (by simp)])
  · exact m2.keep (by rw [Below.heap_alloc _ _ _ (by simp)])
  · rintro f ⟨k, hk | hk⟩ <;> cases hk
  · exact (((Below.refl _ _).alloc (Nat.le_refl _) _).alloc (by simp) _).alloc (by simp; omega) _

end Go.Proofs.Ytolpgajodhondaa
