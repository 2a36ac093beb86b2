/- Two blocks, sorted: slices.SortFunc. -/
import Derived.Test.YtieoilnkfnlbaaaG9
namespace Go.Proofs.Ytieoilnkfnlbaaa
open Go.RowKit Go.Proofs.YtieoilnkfnlbaaaW.PrintWords

set_option maxHeartbeats 4000000 in
set_option maxRecDepth 100000 in
theorem pdq_2 (w : World) (g c : Nat) (lim : Int) (a b : Int) (u v : Value) (h : Calls Try.prog 52 #[.slice (some ⟨g, 0, none⟩) 2 c, .int .i64 0, .int .i64 2, .func (.func 20) #[] #[]] w (SortPost w g a u b v)) :
    Calls Try.prog 34 #[.slice (some ⟨g, 0, none⟩) 2 c, .int .i64 0, .int .i64 2, .int .i64 lim, .func (.func 20) #[] #[]] w (SortPost w g a u b v) := by
  have H := Aside0.mk h
  clear h
  go_enter Try.func34, Try.ntmps34
  go_wp2_with fail
  refine wp_loop_rounds 1 ?_
  rw [rounds_succ]
  go_wp2_with (go_at_call 52; refine H.out.mono ?_; rintro e w' ⟨rfl, h1, h2⟩; have H1 := Aside0.mk h1; have H2 := Aside0.mk h2; clear h1 h2)
  go_end0
  exact ⟨rfl, H1.out, H2.out⟩

set_option maxHeartbeats 4000000 in
set_option maxRecDepth 100000 in
theorem sortFunc_2 (w : World) (g c : Nat) (a b : Int) (u v : Value) (h : Calls Try.prog 52 #[.slice (some ⟨g, 0, none⟩) 2 c, .int .i64 0, .int .i64 2, .func (.func 20) #[] #[]] w (SortPost w g a u b v)) :
    Calls Try.prog 19 #[.slice (some ⟨g, 0, none⟩) 2 c, .func (.func 20) #[] #[]] w (SortPost w g a u b v) := by
  have H := Aside0.mk (fun lim => pdq_2 w g c lim a b u v h)
  clear h
  go_enter Try.func19, Try.ntmps19
  go_wp2_with (first
    | (go_at_call 35; refine (len_2 _).mono ?_; rintro e w' ⟨⟨n, rfl⟩, hw'⟩; rw [hw']; clear hw')
    | (go_at_call 34; refine (H.out _).mono ?_; rintro e w' ⟨rfl, h1, h2⟩; have H1 := Aside0.mk h1; have H2 := Aside0.mk h2; clear h1 h2))
  go_end0
  exact ⟨rfl, H1.out, H2.out⟩

end Go.Proofs.Ytieoilnkfnlbaaa
