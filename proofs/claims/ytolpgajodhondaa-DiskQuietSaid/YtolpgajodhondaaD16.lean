/- A disk that is none. -/
import Derived.Test.YtolpgajodhondaaD15
namespace Go.Proofs.Ytolpgajodhondaa
open Go.RowKit Go.Maps Go.Sort Go.WideMaps Go.Proofs.YtolpgajodhondaaW.PrintWords

theorem step_nil (w : World) : Calls Try.prog 24 #[.pointer none] w fun e w' => e = .returned (.int .i64 2) ∧ w' = w := by
  go_enter Try.func24, Try.ntmps24
  go_wp2
  go_ret
  exact ⟨rfl, rfl⟩

theorem append_nil (w : World) (s : ByteArray) : Calls Try.prog 8 #[.pointer none, .string s, .slice none 0 0] w fun e w' => e = .returned (.int .i64 2) ∧ w' = w := by
  go_enter Try.func8, Try.ntmps8
  go_wp2_with (go_at_call 24; refine (step_nil w).mono ?_; rintro e w' ⟨rfl, rfl⟩)
  go_ret
  exact ⟨rfl, rfl⟩

theorem sync_nil (w : World) (s : ByteArray) : Calls Try.prog 9 #[.pointer none, .string s] w fun e w' => e = .returned (.int .i64 2) ∧ w' = w := by
  go_enter Try.func9, Try.ntmps9
  go_wp2_with (go_at_call 24; refine (step_nil w).mono ?_; rintro e w' ⟨rfl, rfl⟩)
  go_ret
  exact ⟨rfl, rfl⟩

theorem syncNames_nil (w : World) : Calls Try.prog 10 #[.pointer none] w fun e w' => e = .returned (.int .i64 2) ∧ w' = w := by
  go_enter Try.func10, Try.ntmps10
  go_wp2_with (go_at_call 24; refine (step_nil w).mono ?_; rintro e w' ⟨rfl, rfl⟩)
  go_ret
  exact ⟨rfl, rfl⟩

theorem fuse_nil (w : World) (n : Int) : Calls Try.prog 11 #[.pointer none, .int .i64 n] w fun e w' => e = .returned (.tuple #[]) ∧ w' = w := by
  go_enter Try.func11, Try.ntmps11
  go_wp2
  go_end0
  exact ⟨rfl, rfl⟩

set_option maxRecDepth 100000 in
theorem crash_nil (w : World) : Calls Try.prog 14 #[.pointer none, .slice none 0 0, .slice none 0 0] w fun e w' => e = .returned (.pointer none) ∧ w' = w := by
  go_enter Try.func14, Try.ntmps14
  go_wp2
  go_ret
  exact ⟨rfl, rfl⟩

theorem read_nil (w : World) (s : ByteArray) : Calls Try.prog 15 #[.pointer none, .string s] w fun e w' => e = .returned (.tuple #[.slice none 0 0, .int .i64 2]) ∧ w' = w := by
  go_enter Try.func15, Try.ntmps15
  go_wp2
  go_ret2
  exact ⟨rfl, rfl⟩

theorem names_nil (w : World) : Calls Try.prog 17 #[.pointer none] w fun e w' => e = .returned (.slice none 0 0) ∧ w' = w := by
  go_enter Try.func17, Try.ntmps17
  go_wp2
  go_ret
  exact ⟨rfl, rfl⟩

theorem down_nil (w : World) : Calls Try.prog 18 #[.pointer none] w fun e w' => e = .returned (.bool false) ∧ w' = w := by
  go_enter Try.func18, Try.ntmps18
  go_wp2
  go_ret
  exact ⟨rfl, rfl⟩

theorem steps_nil (w : World) : Calls Try.prog 19 #[.pointer none] w fun e w' => e = .returned (.int .i64 0) ∧ w' = w := by
  go_enter Try.func19, Try.ntmps19
  go_wp2
  go_ret
  exact ⟨rfl, rfl⟩

theorem rename_nil (w : World) (s : ByteArray) : Calls Try.prog 20 #[.pointer none, .string s, .string s] w fun e w' => e = .returned (.int .i64 2) ∧ w' = w := by
  go_enter Try.func20, Try.ntmps20
  go_wp2_with (go_at_call 24; refine (step_nil w).mono ?_; rintro e w' ⟨rfl, rfl⟩)
  go_ret
  exact ⟨rfl, rfl⟩

theorem remove_nil (w : World) (s : ByteArray) : Calls Try.prog 21 #[.pointer none, .string s] w fun e w' => e = .returned (.int .i64 2) ∧ w' = w := by
  go_enter Try.func21, Try.ntmps21
  go_wp2_with (go_at_call 24; refine (step_nil w).mono ?_; rintro e w' ⟨rfl, rfl⟩)
  go_ret
  exact ⟨rfl, rfl⟩

theorem used_nil (w : World) : Calls Try.prog 22 #[.pointer none] w fun e w' => e = .returned (.int .i64 0) ∧ w' = w := by
  go_enter Try.func22, Try.ntmps22
  go_wp2
  go_ret
  exact ⟨rfl, rfl⟩

theorem twin_nil (w : World) : Calls Try.prog 23 #[.pointer none] w fun e w' => e = .returned (.pointer none) ∧ w' = w := by
  go_enter Try.func23, Try.ntmps23
  go_wp2
  go_ret
  exact ⟨rfl, rfl⟩

set_option maxHeartbeats 4000000 in
set_option maxRecDepth 100000 in
theorem diskNil_any (s : ByteArray) (n : Int) (w : World) : Calls Try.prog 5 #[.string s, .int .i64 n] w fun e w' => e = .returned (.bool true) ∧ Below w.heap.size w w' := by
  go_enter Try.func5, Try.ntmps5
  go_wp2_with (first
    | (go_at_call 11; refine (fuse_nil _ _).mono ?_; rintro e w' ⟨rfl, rfl⟩)
    | (go_at_call 15; refine (read_nil _ _).mono ?_; rintro e w' ⟨rfl, rfl⟩)
    | (go_at_call 7; refine (awake_any _).mono ?_; rintro e w1 ⟨rfl, hb⟩; have HB := Aside0.mk hb; clear hb)
    | (go_at_call 8; refine (append_nil _ _).mono ?_; rintro e w' ⟨rfl, hw⟩; subst hw)
    | (go_at_call 9; refine (sync_nil _ _).mono ?_; rintro e w' ⟨rfl, hw⟩; subst hw)
    | (go_at_call 20; refine (rename_nil _ _).mono ?_; rintro e w' ⟨rfl, hw⟩; subst hw)
    | (go_at_call 21; refine (remove_nil _ _).mono ?_; rintro e w' ⟨rfl, hw⟩; subst hw)
    | (go_at_call 10; refine (syncNames_nil _).mono ?_; rintro e w' ⟨rfl, hw⟩; subst hw)
    | (go_at_call 22; refine (used_nil _).mono ?_; rintro e w' ⟨rfl, hw⟩; subst hw)
    | (go_at_call 17; refine (names_nil _).mono ?_; rintro e w' ⟨rfl, hw⟩; subst hw)
    | (go_at_call 18; refine (down_nil _).mono ?_; rintro e w' ⟨rfl, hw⟩; subst hw)
    | (go_at_call 19; refine (steps_nil _).mono ?_; rintro e w' ⟨rfl, hw⟩; subst hw)
    | (go_at_call 14; refine (crash_nil _).mono ?_; rintro e w' ⟨rfl, hw⟩; subst hw)
    | (go_at_call 23; refine (twin_nil _).mono ?_; rintro e w' ⟨rfl, hw⟩; subst hw))
  go_ret
  exact ⟨rfl, HB.out⟩

end Go.Proofs.Ytolpgajodhondaa
