/- Truths made of cuts: cutKeep. -/
import Derived.Test.YtolpgajodhondaaD15
namespace Go.Proofs.Ytolpgajodhondaa
open Go.RowKit Go.Maps Go.Sort Go.WideMaps Go.Proofs.YtolpgajodhondaaW.PrintWords

theorem info4 : (Try.prog.info? 4).map (fun i => (i.zero, i.size, i.bytes)) = some (some (.bool false), 1, 1) := by kernel_rfl

theorem RowOf.of_own {w : World} {base : Nat} {v : Value} {xs : List Bool} {good : Value → Prop} (h : w.ownsRow base 4 1 v xs.length (encs Value.bool xs)) (hg : ∀ b, good (.bool b)) : RowOf w v good := by
  obtain ⟨A, c, rfl, hl, hm, hr⟩ := own_reads_of (d := false) h
  refine ⟨A, xs.length, c, rfl, hm, fun h0 => ?_⟩
  obtain ⟨ad, e, hc⟩ := hr h0
  exact ⟨ad, e, fun j hj => ⟨_, hc j hj, hg _⟩⟩

def TruthPost (w : World) (e : Ending) (w' : World) : Prop := ∃ v, e = .returned v ∧ RowOf w' v (fun u => ∃ b, u = .bool b) ∧ Below w.heap.size w w'

set_option maxHeartbeats 1000000 in
set_option maxRecDepth 100000 in
theorem cutKeep_any (w : World) (vc : Value) (cut : List Nat) (hl : cut.length ≤ 140737488351232) (h : CutRow w vc cut) : Calls Try.prog 16 #[vc] w (TruthPost w) := by
  obtain ⟨P, c, rfl, hn, hr⟩ := h
  generalize hcl : cut.length = n at *
  have HR := Aside0.mk hr
  clear hr hcl
  go_enter Try.func16, Try.ntmps16
  go_wp2_with fail
  go_loopg [3, 8] n (fun kq v3 v8 wr => ∃ (i : Nat) (xs : List Bool), v8 = .int .i64 i ∧ i + kq = n ∧ xs.length = i ∧ wr.ownsRow w.heap.size 4 1 v3 xs.length (encs Value.bool xs) ∧ Below w.heap.size w wr)
  case atStart => exact ⟨0, [], rfl, by omega, rfl, own_nil _ _ _ _, Below.refl _ _⟩
  case round =>
    obtain ⟨i, xs, rfl, hik, hxl, hown, hb⟩ := hrel
    have HO := Aside0.mk hown
    have HB := Aside0.mk hb
    have HX := Aside0.mk hxl
    cases gk with
    | zero =>
      have hlt : decide (i < n) = false := decide_eq_false (by omega)
      clear hown hb hxl
      go_wp2
      go_ret
      exact ⟨_, rfl, RowOf.of_own HO.out (fun b => ⟨b, rfl⟩), HB.out⟩
    | succ q =>
      have hlt : decide (i < n) = true := decide_eq_true (by omega)
      have hii : i < n := by omega
      obtain ⟨ad, rfl, hcell⟩ := HR.out (by omega)
      have hc := pw_cell_below hb (hcell i hii).1
      generalize cut.getD i 0 = x at *
      have hsz := hb.size
      have hb0 : (xs.length + 1) * 1 ≤ 140737488355328 := by omega
      have HIK := Aside0.mk hik
      clear hcell hown hb hxl
      go_wp2_with (first
        | (at_builtin; refine print_append_of (w0 := w) Value.bool w.heap.size rfl (.tmp 12) (.tmp 16) 23 4 (.bool false) 1 rfl Try.underlying23 info4 rfl (by decide) _ xs _ rfl rfl rfl HO.out HB.out hsz hb0 ?_; intro v1 w4 hown4 hb4 hg4 hat4; have HO4 := Aside0.mk hown4; have HB4 := Aside0.mk hb4; clear hown4 hb4 hg4 hat4)
        | go_in)
      go_roundg q
      case measure => omega
      case rel => exact ⟨i + 1, _, by go_num, by have := HIK.out; omega, by simp [HX.out], HO4.out, HB4.out⟩

end Go.Proofs.Ytolpgajodhondaa
