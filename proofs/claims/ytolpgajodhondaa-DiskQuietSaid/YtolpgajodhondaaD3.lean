/- Whether a text is a file's name: it is asked of any text. -/
import Derived.Test.YtolpgajodhondaaShelf
import Derived.Test.YtolpgajodhondaaD2
import Derived.Laws.RangeAny
import Derived.Lib.OthersKept
namespace Go.Proofs.Ytolpgajodhondaa
open Go.RowKit Go.Maps Go.Sort Go.WideMaps Go.Proofs.YtolpgajodhondaaW.PrintWords

def seps : ByteArray := ⟨#[47, 0]⟩

set_option maxHeartbeats 2000000 in
set_option maxRecDepth 100000 in
theorem indexRune_bad (r : Int) (w : World) (h0 : 128 ≤ r) (h1 : r ≤ 2147483647) (hv : Lib.validRune r = false) (hr : r ≠ 65533) :
    Calls Try.prog 61 #[.string ⟨#[47, 0]⟩, .int .i32 r] w fun e w' => ∃ k : Int, e = .returned (.int .i64 k) ∧ w' = w := by
  have b0 : (r == 65533) = false := beq_eq_false_iff_ne.2 hr
  clear hr
  go_enter Try.func61, Try.ntmps61
  go_wp2_with (go_at_call 72; refine (Try.utf8_ValidRune _ _).mono ?_; rintro e w' ⟨rfl, rfl⟩; rw [hv])
  go_ret
  exact ⟨_, rfl, rfl⟩

set_option maxHeartbeats 2000000 in
set_option maxRecDepth 100000 in
theorem indexRune_err (w : World) :
    Calls Try.prog 61 #[.string ⟨#[47, 0]⟩, .int .i32 65533] w fun e w' => ∃ k : Int, e = .returned (.int .i64 k) ∧ Below w.heap.size w w' := by
  go_enter Try.func61, Try.ntmps61
  go_wp2
  have n0 : ∀ ty, (Instr.next (.pointer (some ⟨w.heap.size, 0, none⟩)) true ty).run Try.prog (w.iter ⟨#[47, 0]⟩ 0) = .ok (.tuple #[.bool true, .int .i64 0, .int .i32 47]) (w.iter ⟨#[47, 0]⟩ 1) := fun ty => run_next_ascii (P := Try.prog) w ⟨#[47, 0]⟩ 0 ty (by decide) (by decide)
  have n1 : ∀ ty, (Instr.next (.pointer (some ⟨w.heap.size, 0, none⟩)) true ty).run Try.prog (w.iter ⟨#[47, 0]⟩ 1) = .ok (.tuple #[.bool true, .int .i64 1, .int .i32 0]) (w.iter ⟨#[47, 0]⟩ 2) := fun ty => run_next_ascii (P := Try.prog) w ⟨#[47, 0]⟩ 1 ty (by decide) (by decide)
  have n2 := fun ty => run_next_end (P := Try.prog) w ⟨#[47, 0]⟩ 2 ty (by decide)
  refine wp_loop_rounds 3 ?_
  rw [rounds_succ]
  go_wp2
  rw [rounds_succ]
  go_wp2
  rw [rounds_succ]
  go_wp2
  go_ret
  exact ⟨_, rfl, (Below.refl _ _).alloc (Nat.le_refl _) _⟩

/-- A callee that reads alone, in a region behind another one that drew. -/
theorem quiet_again {P : Program} {f : FuncId} {args : Array Value} {w : World} {i j : Nat} {v : Value} (h : Calls P f args (w.drewN (i + j)) fun e w' => e = .returned v ∧ w' = w.drewN (i + j)) :
    Calls P f args (w.drewN (i + j)) fun e w'' => e = .returned v ∧ ∃ m, w'' = w.drewN (i + m) := h.mono fun _ _ h => ⟨h.1, j, h.2⟩

theorem ib_empty (c : Int) (w : World) : Calls Try.prog 71 #[.string ⟨#[]⟩, .int .u8 c] w fun e w' => e = .returned (.int .i64 (-1)) ∧ w' = w :=
  Try.strings_IndexByte ⟨#[]⟩ c w

set_option maxHeartbeats 4000000 in
set_option maxRecDepth 100000 in
theorem indexRune_two (e : ByteArray) (r : Int) (w : World) (h0 : 128 ≤ r) (h1 : r ≤ 2147483647) (hv : Lib.validRune r = true) (hr : r ≠ 65533) (he : Utf8.encode r = e) (h2 : 2 ≤ e.size) (h4 : e.size ≤ 4) (h5 : ∀ h : e.size - 1 < e.size, 128 ≤ (e[e.size - 1]'h).toNat) :
    Calls Try.prog 61 #[.string ⟨#[47, 0]⟩, .int .i32 r] w fun e w' => ∃ k : Int, e = .returned (.int .i64 k) ∧ Below w.heap.size w w' := by
  have b0 : (r == 65533) = false := beq_eq_false_iff_ne.2 hr
  clear hr
  by_cases hs : e.size = 2
  · have hl : 128 ≤ (e[1]'(by omega)).toNat := by
      have := h5 (by omega)
      simpa [hs] using this
    obtain ⟨x, hx⟩ : ∃ x : UInt8, e[1]'(by omega) = x := ⟨_, rfl⟩
    rw [hx] at hl
    have hm := Aside0.mk (show Lib.indexByte ([] : List UInt8) x = -1 from rfl)
    have hne : ((0 : Int) != (x.toNat : Int)) = true := by rw [bne_iff_ne]; omega
    clear h5
    have HS := Aside0.mk hs
    have hsz : (e.size : Int) = 2 := by omega
    have hsl : ∀ w, (Instr.slice 9 (.string ⟨#[47, 0]⟩) (some (.int .i64 2)) none none).run Try.prog w = .ok (.string ⟨#[]⟩) w := fun w => by kernel_rfl
    have z1 : ((⟨#[47, 0]⟩ : ByteArray)[1]'(by decide)).toNat = 0 := rfl
    have h1lt : 1 < e.size := by omega
    have hx' : ∀ h : 1 < e.size, e[1]'h = x := fun _ => hx
    clear h4 h2 hs hx
    go_enter Try.func61, Try.ntmps61
    go_wp2_with (go_at_call 72; refine (Try.utf8_ValidRune _ _).mono ?_; rintro e w' ⟨rfl, rfl⟩; rw [hv])
    go_step3
    go_wp2
    refine wp_loop_rounds 1 ?_
    rw [rounds_succ]
    go_wp2
    go_step3
    go_wp2
    go_quiet (fail)
    go_wp2
    go_quiet ((go_at_call 71; exact quiet_again (ib_empty _ _)))
    go_wp2
    rw [Exit.noGoto_ret]
    go_wp2
    rw [Exit.noGoto_ret]
    go_ret
    exact ⟨_, rfl, ⟨rfl, rfl, rfl, Nat.le_refl _, fun _ _ => rfl⟩⟩
  · have h3 : 3 ≤ e.size := by omega
    clear hs h2 h5
    have hgt : decide (((e.size : Int) - 1) < 2) = false := decide_eq_false (by omega)
    go_enter Try.func61, Try.ntmps61
    go_wp2_with (go_at_call 72; refine (Try.utf8_ValidRune _ _).mono ?_; rintro e w' ⟨rfl, rfl⟩; rw [hv])
    go_step3
    go_wp2
    refine wp_loop_rounds 1 ?_
    rw [rounds_succ]
    go_wp2
    rw [Exit.noGoto_ret]
    go_ret
    exact ⟨_, rfl, Below.refl _ _⟩

/-- Of any rune beyond ASCII. -/
theorem indexRune_high (r : Int) (w : World) (h0 : 128 ≤ r) (h1 : r ≤ 2147483647) :
    Calls Try.prog 61 #[.string ⟨#[47, 0]⟩, .int .i32 r] w fun e w' => ∃ k : Int, e = .returned (.int .i64 k) ∧ Below w.heap.size w w' := by
  by_cases hr : r = 65533
  · subst hr
    exact indexRune_err w
  · cases hv : Lib.validRune r with
    | false => exact (indexRune_bad r w h0 h1 hv hr).mono fun e w' ⟨k, he, hw⟩ => ⟨k, he, hw ▸ Below.refl _ _⟩
    | true =>
      have hv' : Utf8.valid r = true := by rw [validRune_eq]; exact hv
      obtain ⟨a, b, c⟩ := encode_facts r hv' h0
      exact indexRune_two _ r w h0 h1 hv hr rfl a b c

/-- Of any rune. -/
theorem indexRune_any (r : Int) (w : World) (h0 : 0 ≤ r) (h1 : r ≤ 2147483647) :
    Calls Try.prog 61 #[.string ⟨#[47, 0]⟩, .int .i32 r] w fun e w' => ∃ k : Int, e = .returned (.int .i64 k) ∧ Below w.heap.size w w' := by
  by_cases h : r < 128
  · exact (Try.strings_IndexRune_ascii ⟨#[47, 0]⟩ r w h0 h).mono fun e w' ⟨he, hw⟩ => ⟨_, he, hw ▸ Below.refl _ _⟩
  · exact indexRune_high r w (by omega) h1

theorem decode_pos (s : ByteArray) (i : Nat) (h : i < s.size) : 1 ≤ (Utf8.decode s i).2 := by
  by_cases ha : (s[i]'h).toNat < 128
  · rw [decode_ascii s i h ha]
    exact Nat.le_refl _
  · exact (decode_high s i h (by omega)).2

set_option maxHeartbeats 4000000 in
set_option maxRecDepth 100000 in
theorem indexAny_short (s : ByteArray) (w : World) (h8 : s.size ≤ 8) :
    Calls Try.prog 48 #[.string s, .string ⟨#[47, 0]⟩] w fun e w' => ∃ k : Int, e = .returned (.int .i64 k) ∧ Below w.heap.size w w' := by
  have h8z : decide ((8 : Int) < (s.size : Int)) = false := decide_eq_false (by omega)
  go_enter Try.func48, Try.ntmps48
  go_wp2_with (go_at_call 62; refine (Try.strings_shouldUseASCIISet _ _).mono ?_; rintro e w' ⟨rfl, hw⟩; rw [hw, h8z])
  go_loopw [9, 10] (fun _ _ wx => ∃ i : Nat, Aside0 (wx.heap[w.heap.size]? = some (.stringIter s i)) ∧ Aside0 (Below w.heap.size w wx)) (fun _ _ wx => s.size - wx.iterPos w.heap.size)
  case atStart => exact ⟨0, ⟨World.iter_heap w s 0⟩, ⟨(Below.refl _ _).alloc (Nat.le_refl _) _⟩⟩
  case round =>
    obtain ⟨i, ⟨hit⟩, hb⟩ := hrel
    by_cases hp : i < s.size
    · have hnx : ∀ ty, (Instr.next (.pointer (some ⟨w.heap.size, 0, none⟩)) true ty).run Try.prog wr = _ := fun ty => Lib.run_next_any_at wr w.heap.size s i ty hit hp
      have hwd := decode_pos s i hp
      have hd1 := decode_le s i
      have hit2 := Aside0.mk (Lib.iterAt_heap wr w.heap.size s i (i + (Utf8.decode s i).2) hit)
      have hb2 := Aside0.mk (Lib.below_iterAt hb.out (Nat.le_refl _) s (i + (Utf8.decode s i).2))
      have hsz : w.heap.size < (wr.iterAt w.heap.size s (i + (Utf8.decode s i).2)).heap.size := by rw [Lib.iterAt_size]; exact blk_lt' hit
      have HIT := Aside0.mk hit
      clear hit
      generalize hdr : (Utf8.decode s i).1 = dr at *
      generalize hdl : (Utf8.decode s i).2 = dl at *
      have HDL := Aside0.mk hdl
      clear hdl hdr
      go_wp2_with (go_at_call 61; refine (indexRune_any _ _ (by omega) (by omega)).mono ?_; rintro e w' ⟨k, rfl, hb3⟩)
      all_goals have hb4 : Below w.heap.size w w' := hb2.out.trans (hb3.mono (Nat.le_of_lt hsz))
      · go_ret
        exact ⟨_, rfl, hb4⟩
      · have hit4 := (hb3.block _ hsz).trans hit2.out
        go_roundw
        case rel => exact ⟨i + dl, ⟨hit4⟩, ⟨hb4⟩⟩
        case measure =>
          simp only [World.iterPos, hit4, HIT.out]
          omega
    · have hnx : ∀ ty, (Instr.next (.pointer (some ⟨w.heap.size, 0, none⟩)) true ty).run Try.prog wr = _ := fun ty => Lib.run_next_end_at wr w.heap.size s i ty hit hp
      go_wp2
      go_ret
      exact ⟨_, rfl, hb.out⟩

end Go.Proofs.Ytolpgajodhondaa
