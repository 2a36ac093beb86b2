/- The document's disk: a new one; may it be a name; all bytes. -/
import Derived.Test.YtolpgajodhondaaR3
namespace Go.Proofs.Ytolpgajodhondaa
open Go.RowKit Go.Maps Go.Sort Go.WideMaps Go.Proofs.YtolpgajodhondaaW.PrintWords

def RefNewPost (w : World) (e : Ending) (w' : World) : Prop := ∃ q, e = .returned (.pointer (some ⟨q, 0, none⟩)) ∧ RefIn w' (fun k => w.heap.size ≤ k) q 0 0 ∧ Below w.heap.size w w'

theorem ref_new (w : World) (room : Int) : Calls Try.prog 12 #[.int .i64 room] w (RefNewPost w) := by
  have hmm := @run_makeMap Try.prog
  go_enter Try.func12, Try.ntmps12
  go_wp2
  go_ret
  have hm : NumAt (w.alloc (.map #[] 0)) w.heap.size 0 0 := NumAt.empty (heap_alloc_new w _) 0
  refine ⟨w.heap.size + 2, by simp, ⟨⟨room, .slice none 0 0, -1, false, 0, w.heap.size, .map (some (w.heap.size + 1)), []⟩, ⟨?_, Nat.le_refl _, (fun k hk => by cases hk), ?_, ?_, ⟨rfl, .inl ⟨rfl, rfl⟩⟩, Nat.le_refl _, (fun x hx => by simp at hx), ⟨_, rfl⟩⟩⟩, ?_⟩
  · show w.heap.size ≤ w.heap.size + 2
    omega
  · have := heap_alloc_new ((w.alloc (.map #[] 0)).alloc (.map #[] 0)) (.cells (refCells ⟨room, .slice none 0 0, -1, false, 0, w.heap.size, .map (some (w.heap.size + 1)), []⟩) 66)
    simpa [refCells] using this
  · exact hm.keep (by rw [Below.heap_alloc _ _ _ (by simp; omega), Below.heap_alloc _ _ _ (by simp)])
  · exact (((Below.refl _ _).alloc (Nat.le_refl _) _).alloc (by simp) _).alloc (by simp; omega) _

def BoolPost (w : World) (e : Ending) (w' : World) : Prop := ∃ b : Bool, e = .returned (.bool b) ∧ w' = w

set_option maxHeartbeats 1000000 in
theorem ref_name (w : World) (s : ByteArray) : Calls Try.prog 40 #[.string s] w (BoolPost w) := by
  by_cases h0 : s.size < 1
  · have b0 : decide (s.size < 1) = true := decide_eq_true h0
    have c0 : decide ((s.size : Int) < 1) = true := decide_eq_true (by omega)
    clear h0
    go_enter Try.func40, Try.ntmps40
    go_wp2
    go_ret
    exact ⟨_, rfl, rfl⟩
  · have b0 : decide (s.size < 1) = false := decide_eq_false h0
    have c0 : decide ((s.size : Int) < 1) = false := decide_eq_false (by omega)
    by_cases h1 : 64 < s.size
    · have b1 : decide (64 < s.size) = true := decide_eq_true h1
      have c1 : decide ((64 : Int) < (s.size : Int)) = true := decide_eq_true (by omega)
      clear h0 h1
      go_enter Try.func40, Try.ntmps40
      go_wp2
      go_ret
      exact ⟨_, rfl, rfl⟩
    · have b1 : decide (64 < s.size) = false := decide_eq_false h1
      have c1 : decide ((64 : Int) < (s.size : Int)) = false := decide_eq_false (by omega)
      go_enter Try.func40, Try.ntmps40
      go_wp2
      go_loopg [3] s.size (fun kq v w' => ∃ i : Int, v = .int .i64 i ∧ 0 ≤ i ∧ i + kq = s.size ∧ w' = w)
      case atStart => exact ⟨0, rfl, Int.le_refl _, by omega, rfl⟩
      case round =>
        obtain ⟨i, rfl, hi0, hik, rfl⟩ := hrel
        have HIK := Aside0.mk hik
        cases gk with
        | zero =>
          have hlt : decide (i < (s.size : Int)) = false := decide_eq_false (by omega)
          clear hik
          go_wp2
          go_ret
          exact ⟨_, rfl, rfl⟩
        | succ q =>
          have hlt : decide (i < (s.size : Int)) = true := decide_eq_true (by omega)
          have p7 : (0 ≤ i) = True := eq_true hi0
          have q7 : (i < (s.size : Int)) = True := eq_true (by omega)
          have hb64 : i ≤ 64 := by omega
          have HI0 := Aside0.mk hi0
          have hx := bt_at s i
          clear hik hi0 h0 h1
          by_cases c8 : (bt s i) = 47
          · have c8b0 : ((bt s i) == 47) = true := beq_iff_eq.mpr c8
            clear c8
            go_wp2
            go_ret
            exact ⟨_, rfl, rfl⟩
          · have c8b0 : ((bt s i) == 47) = false := beq_eq_false_iff_ne.mpr c8
            clear c8
            by_cases c10 : (bt s i) = 0
            · have c10b0 : ((bt s i) == 0) = true := beq_iff_eq.mpr c10
              clear c10
              go_wp2
              go_ret
              exact ⟨_, rfl, rfl⟩
            · have c10b0 : ((bt s i) == 0) = false := beq_eq_false_iff_ne.mpr c10
              clear c10
              go_wp2
              go_roundg q
              case measure => omega
              case rel =>
                have := HI0.out
                have := HIK.out
                refine ⟨i + 1, ?_, by omega, by omega, rfl⟩
                refine congrArg _ ?_
                exact IntWalk.wrap64_in _ (by omega)

end Go.Proofs.Ytolpgajodhondaa
