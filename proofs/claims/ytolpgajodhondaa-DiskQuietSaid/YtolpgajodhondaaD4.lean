/- Whether a text is a file's name (2). -/
import Derived.Test.YtolpgajodhondaaD3
namespace Go.Proofs.Ytolpgajodhondaa
open Go.RowKit Go.Maps Go.Sort Go.WideMaps Go.Proofs.YtolpgajodhondaaW.PrintWords

theorem zv101 : ∀ w, (zeroValue 101).run Try.prog w = .ok (.agg (Array.replicate 256 (.bool false))) w := fun w => by kernel_rfl

theorem seps_ascii : ∀ (j : Nat) b, (⟨#[47, 0]⟩ : ByteArray).data.toList[j]? = some b → b.toNat < 128 := by
  intro j b h
  match j, h with
  | 0, h => cases h; decide
  | 1, h => cases h; decide
  | j + 2, h => simp at h

theorem indexAny_any (s : ByteArray) (w : World) (h64 : s.size ≤ 64) :
    Calls Try.prog 48 #[.string s, .string ⟨#[47, 0]⟩] w fun e w' => ∃ k : Int, e = .returned (.int .i64 k) ∧ Below w.heap.size w w' := by
  by_cases h8 : s.size ≤ 8
  · exact indexAny_short s w h8
  · exact (Try.strings_IndexAny_long zv101 s ⟨#[47, 0]⟩ w (by decide) (by omega) (by omega) (by decide) seps_ascii).mono fun e w' h => by
      obtain ⟨he, h⟩ := h
      exact ⟨_, he, h ▸ ((Below.refl _ _).alloc (Nat.le_refl _) _).alloc (by simp) _⟩

theorem containsAny_any (s : ByteArray) (w : World) (h64 : s.size ≤ 64) :
    Calls Try.prog 37 #[.string s, .string ⟨#[47, 0]⟩] w fun e w' => ∃ b : Bool, e = .returned (.bool b) ∧ Below w.heap.size w w' := by
  go_enter Try.func37, Try.ntmps37
  go_wp2_with (go_at_call 48; refine (indexAny_any s w h64).mono ?_; rintro e w' ⟨k, rfl, hb⟩)
  go_ret
  exact ⟨_, rfl, hb⟩

/-- A plain name: what the document's examples have. -/
def plain (s : ByteArray) : Bool := decide (1 ≤ s.size) && decide (s.size ≤ 64) && s.data.toList.all fun b => decide (b.toNat < 128) && b != 47 && b != 0

set_option maxHeartbeats 1000000 in
theorem name_any (s : ByteArray) (w : World) :
    Calls Try.prog 25 #[.string s] w fun e w' => ∃ b : Bool, e = .returned (.bool b) ∧ Below w.heap.size w w' := by
  by_cases h0 : s.toList.isEmpty = true
  · have h0' : (!s.toList.isEmpty) = false := by rw [h0]; rfl
    go_enter Try.func25, Try.ntmps25
    go_wp2
    go_ret
    exact ⟨_, rfl, Below.refl _ _⟩
  · have h0' : s.toList.isEmpty = false := by simpa using h0
    have h0'' : (!s.toList.isEmpty) = true := by rw [h0']; rfl
    clear h0
    by_cases h64 : s.size ≤ 64
    · have h64' : decide ((s.size : Int) ≤ 64) = true := decide_eq_true (by omega)
      go_enter Try.func25, Try.ntmps25
      go_wp2_with (go_at_call 37; refine (containsAny_any s w h64).mono ?_; rintro e w' ⟨b, rfl, hb⟩)
      go_ret
      exact ⟨_, rfl, hb⟩
    · have h64' : decide ((s.size : Int) ≤ 64) = false := decide_eq_false (by omega)
      go_enter Try.func25, Try.ntmps25
      go_wp2
      go_ret
      exact ⟨_, rfl, Below.refl _ _⟩

theorem plain_facts {s : ByteArray} (h : plain s = true) : 1 ≤ s.size ∧ s.size ≤ 64 ∧ ∀ b ∈ s.data.toList, b.toNat < 128 ∧ b ≠ 47 ∧ b ≠ 0 := by
  unfold plain at h
  simp only [Bool.and_eq_true, decide_eq_true_eq, List.all_eq_true, bne_iff_ne] at h
  exact ⟨h.1.1, h.1.2, fun b hb => ⟨(h.2 b hb).1.1, (h.2 b hb).1.2, (h.2 b hb).2⟩⟩

theorem containsAny_plain (s : ByteArray) (w : World) (h : plain s = true) :
    Calls Try.prog 37 #[.string s, .string ⟨#[47, 0]⟩] w fun e w' => e = .returned (.bool false) ∧ Below w.heap.size w w' := by
  obtain ⟨h1, h2, h3⟩ := plain_facts h
  refine (Try.strings_ContainsAny_laid s ⟨#[47, 0]⟩ w (by omega) (by decide) (fun j b hb => (h3 b (List.mem_of_getElem? hb)).1) seps_ascii).mono fun e w' ⟨he, hb⟩ => ⟨?_, hb⟩
  have : Lib.containsAny s.data.toList (⟨#[47, 0]⟩ : ByteArray).data.toList = false := by
    unfold Lib.containsAny
    rw [Lib.indexAny_none (fun j b _ hb => ?_)]
    · rfl
    · obtain ⟨_, h4, h5⟩ := h3 b (List.mem_of_getElem? hb)
      simp [h4, h5]
  rw [he, this]

theorem name_plain (s : ByteArray) (w : World) (h : plain s = true) :
    Calls Try.prog 25 #[.string s] w fun e w' => e = .returned (.bool true) ∧ Below w.heap.size w w' := by
  obtain ⟨h1, h64, _⟩ := plain_facts h
  have h0' : s.toList.isEmpty = false := by
    rw [Lib.toList_data]
    cases hl : s.data.toList with
    | nil => have := Lib.size_eq s; rw [hl, List.length_nil] at this; omega
    | cons _ _ => rfl
  have h0'' : (!s.toList.isEmpty) = true := by rw [h0']; rfl
  have h64' : decide ((s.size : Int) ≤ 64) = true := decide_eq_true (by omega)
  have HP := Aside0.mk h
  clear h
  go_enter Try.func25, Try.ntmps25
  go_wp2_with (go_at_call 37; refine (containsAny_plain s w HP.out).mono ?_; rintro e w' ⟨rfl, hb⟩)
  go_ret
  exact ⟨rfl, hb⟩

end Go.Proofs.Ytolpgajodhondaa
