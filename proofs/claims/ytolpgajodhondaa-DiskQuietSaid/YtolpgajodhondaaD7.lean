/- A disk's names: taken away, given, made sure. -/
import Derived.Test.YtolpgajodhondaaD6
namespace Go.Proofs.Ytolpgajodhondaa
open Go.RowKit Go.Maps Go.Sort Go.WideMaps Go.Proofs.YtolpgajodhondaaW.PrintWords

section
variable (w : World) {ops : Array Oper} {rest : List Oper} {o : Oper} {a : Act} {Q : Exit → Act → World → Prop}

theorem wpList_delete_map (hg : o.guard = none) (m x : Operand) (hop : o.op = Op.call { callee := Callee.builtin Builtin.delete, args := #[m, x], argTypes := #[54, 9] })
    (b n : Nat) (mp : List UInt8 → Option Nat) (hm : a.eval m = .map (some b)) (h : MapAt w b n mp) (s : ByteArray) (hs : s.size ≤ maxLen) (hx : a.eval x = .string s)
    (hK : ∀ w', MapAt w' b n (upd mp s.data.toList none) → w.mapTurned w' b → wpList Try.prog ops Q rest (a.put o.dst (.tuple #[])) w') :
    wpList Try.prog ops Q (o :: rest) a w := by
  refine wpList_plain hg fun K' hK' => ?_
  obtain ⟨w', hrun, r1, r2⟩ := h.drop s hs o.type
  unfold Oper.wp
  simp [execOp, hop, resolve, invoke, builtin, hm, hx, hrun, Result.andThen]
  exact hK' _ _ (hK w' r1 r2)

theorem wpList_store_map (hg : o.guard = none) (m x v : Operand) (hop : o.op = Op.mapUpdate 54 m x v)
    (b n : Nat) (mp : List UInt8 → Option Nat) (hm : a.eval m = .map (some b)) (h : MapAt w b n mp) (hn : n < maxLen) (s : ByteArray) (hs : s.size ≤ maxLen) (hx : a.eval x = .string s) (f : Nat) (hv : a.eval v = .pointer (some ⟨f, 0, none⟩))
    (hK : ∀ w', MapAt w' b (n + 1) (upd mp s.data.toList (some f)) → w.mapTurned w' b → wpList Try.prog ops Q rest (a.put o.dst undef) w') :
    wpList Try.prog ops Q (o :: rest) a w := by
  refine wpList_plain hg fun K' hK' => ?_
  obtain ⟨w', hrun, r1, r2⟩ := h.store hn s hs f
  rw [ptr_some] at hrun
  unfold Oper.wp
  simp [execOp, hop, hm, hx, hv, hrun, Result.andThen]
  exact hK' _ _ (hK w' r1 r2)
end

/-! ### Remove -/
def Disk.remove1 (B : Disk) (k : List UInt8) : Disk × Int :=
  match B.names k with
  | none => (B, 3)
  | some _ => ({ B with names := upd B.names k none }, 0)
def Disk.remove (A : Disk) (k : List UInt8) : Disk × Int := if A.step.2 ≠ 0 then A.step else A.step.1.remove1 k

theorem mapTurned_other {w w' : World} {b : Nat} (h : w.mapTurned w' b) : ∀ k, k ≠ b → k < w.heap.size → w'.heap[k]? = w.heap[k]? := fun k hk hl => h.grown.block k hl (by simpa using hk)
theorem mapTurned_size {w w' : World} {b : Nat} (h : w.mapTurned w' b) : w'.heap.size = w.heap.size := by
  obtain ⟨es, c, es', c', _, rfl⟩ := h
  simp [ChangeMaps.setBlock]

set_option maxHeartbeats 1000000 in
theorem remove_any (w : World) (S : Nat → Prop) (d nb sb N L : Nat) (A : Disk) (s : ByteArray) (hs : s.size ≤ maxLen) (h : DiskIn w S d nb sb N L A) :
    Calls Try.prog 21 #[.pointer (some ⟨d, 0, none⟩), .string s] w fun e w' => e = .returned (.int .i64 (A.remove s.data.toList).2) ∧ DiskIn w' S d nb sb N L (A.remove s.data.toList).1 ∧ Keeps S w w' ∧ w'.heap.size = w.heap.size := by
  have hst := step_any w S d nb sb N L A h
  unfold Disk.remove
  generalize A.step = st at *
  obtain ⟨B, r⟩ := st
  by_cases hr : r = 0
  · subst hr
    simp only [ne_eq, not_true_eq_false, if_false]
    go_enter Try.func21, Try.ntmps21
    go_wp2_with fail
    refine hst.mono ?_
    rintro e w1 ⟨rfl, hin, hk, hsz⟩
    have HI := Aside0.mk hin
    have HK := Aside0.mk hk
    have HZ := Aside0.mk hsz
    have c1 : w1.cell? ⟨d, 1, none⟩ = some (.map (some nb)) := hin.cells.1 1
    have hl := hin.names.look s hs
    clear hk hsz
    cases hm : B.names s.data.toList with
    | none =>
      rw [hm] at hl
      have e1 : B.remove1 s.data.toList = (B, 3) := by unfold Disk.remove1; rw [hm]
      have HE := Aside0.mk e1
      clear e1 hm hin
      rw [ptr_none] at hl
      go_wp2
      go_ret
      rw [HE.out]
      exact ⟨rfl, HI.out, HK.out, HZ.out⟩
    | some f =>
      rw [hm] at hl
      have e1 : B.remove1 s.data.toList = ({ B with names := upd B.names s.data.toList none }, 0) := by unfold Disk.remove1; rw [hm]
      have HE := Aside0.mk e1
      have hnm := hin.names
      clear e1 hm hin
      rw [ptr_some] at hl
      go_wp2_with (at_delete; refine wpList_delete_map _ rfl _ _ rfl nb N B.names rfl hnm s hs rfl ?_; intro w2 hm2 ht2)
      go_ret
      rw [HE.out]
      refine ⟨rfl, HI.out.named (Nat.le_refl _) hm2 (mapTurned_other ht2) ?_, HK.out.turned ht2 (.inl HI.out.sn), by rw [mapTurned_size ht2]; exact HZ.out⟩
      rintro g ⟨k, hk | hk⟩
      · unfold upd at hk
        simp only at hk
        split at hk
        · cases hk
        · exact ⟨k, .inl hk⟩
      · exact ⟨k, .inr hk⟩
  · have hr' : (r != 0) = true := by rw [bne_iff_ne]; exact hr
    rw [if_pos (by simpa using hr)]
    clear hr
    go_enter Try.func21, Try.ntmps21
    go_wp2_with (go_at_call 24; refine hst.mono ?_; rintro e w1 ⟨rfl, hin, hk, hsz⟩)
    go_ret
    exact ⟨rfl, hin, hk, hsz⟩

/-! ### Rename -/
/-- ok: may the new text be a name? -/
def Disk.rename1 (B : Disk) (ok : Bool) (k t : List UInt8) : Disk × Int :=
  match B.names k with
  | none => (B, 3)
  | some f => if ok = true then ({ B with names := upd (upd B.names k none) t (some f) }, 0) else (B, 1)
def Disk.rename (A : Disk) (ok : Bool) (k t : List UInt8) : Disk × Int := if A.step.2 ≠ 0 then A.step else A.step.1.rename1 ok k t

/-- A disk with new blocks beside it. -/
theorem DiskIn.beside {w w' : World} {S : Nat → Prop} {d nb sb N L : Nat} {A : Disk} (h : DiskIn w S d nb sb N L A) (hb : Below w.heap.size w w') : DiskIn w' S d nb sb N L A :=
  h.keep (fun k _ hl => hb.block k hl) (fun _ h => h)

def RenamePost (w : World) (S : Nat → Prop) (d nb sb N L : Nat) (st : Disk × Int) (k t : List UInt8) (e : Ending) (w' : World) : Prop :=
  ∃ ok, e = .returned (.int .i64 (if st.2 ≠ 0 then st else st.1.rename1 ok k t).2) ∧ DiskIn w' S d nb sb (N + 1) L (if st.2 ≠ 0 then st else st.1.rename1 ok k t).1 ∧ Keeps S w w'

set_option maxHeartbeats 1000000 in
theorem rename_any (w : World) (S : Nat → Prop) (d nb sb N L : Nat) (A : Disk) (s t : ByteArray) (hs : s.size ≤ maxLen) (ht : t.size ≤ maxLen) (hN : N < maxLen) (h : DiskIn w S d nb sb N L A) :
    Calls Try.prog 20 #[.pointer (some ⟨d, 0, none⟩), .string s, .string t] w (RenamePost w S d nb sb N L A.step s.data.toList t.data.toList) := by
  have hst := step_any w S d nb sb N L A h
  generalize A.step = st at *
  obtain ⟨B, r⟩ := st
  by_cases hr : r = 0
  · subst hr
    go_enter Try.func20, Try.ntmps20
    go_wp2_with fail
    refine hst.mono ?_
    rintro e w1 ⟨rfl, hin, hk, hsz⟩
    have HI := Aside0.mk hin
    have HK := Aside0.mk hk
    have c1 : w1.cell? ⟨d, 1, none⟩ = some (.map (some nb)) := hin.cells.1 1
    have hl := hin.names.look s hs
    clear hk hsz
    cases hm : B.names s.data.toList with
    | none =>
      rw [hm] at hl
      have e1 : ∀ ok, B.rename1 ok s.data.toList t.data.toList = (B, 3) := fun ok => by unfold Disk.rename1; rw [hm]
      have HE := Aside0.mk e1
      clear e1 hm hin
      rw [ptr_none] at hl
      go_wp2
      go_ret
      refine ⟨true, ?_⟩
      simp only [ne_eq, not_true_eq_false, if_false]
      rw [HE.out]
      exact ⟨rfl, HI.out.mono (Nat.le_succ _) (Nat.le_refl _), HK.out⟩
    | some f =>
      rw [hm] at hl
      have HM := Aside0.mk hm
      clear hm hin
      rw [ptr_some] at hl
      go_wp2_with fail
      refine (name_any t w1).mono ?_
      rintro e w2 ⟨ok, rfl, hb⟩
      have HI2 := Aside0.mk (HI.out.beside hb)
      have HK2 := Aside0.mk (HK.out.trans (Keeps.of_new (S := fun _ => False) hb) (fun i hi => hi.elim))
      have c2 : w2.cell? ⟨d, 1, none⟩ = some (.map (some nb)) := HI2.out.cells.1 1
      have hnm := HI2.out.names
      cases ok with
      | false =>
        have e1 : B.rename1 false s.data.toList t.data.toList = (B, 1) := by unfold Disk.rename1; rw [HM.out]; rfl
        have HE := Aside0.mk e1
        clear e1 hl hb
        go_wp2
        go_ret
        refine ⟨false, ?_⟩
        simp only [ne_eq, not_true_eq_false, if_false]
        rw [HE.out]
        exact ⟨rfl, HI2.out.mono (Nat.le_succ _) (Nat.le_refl _), HK2.out⟩
      | true =>
        have e1 : B.rename1 true s.data.toList t.data.toList = ({ B with names := upd (upd B.names s.data.toList none) t.data.toList (some f) }, 0) := by unfold Disk.rename1; rw [HM.out]; rfl
        have HE := Aside0.mk e1
        clear e1 hl hb
        have hin3 : ∀ w3, MapAt w3 nb N (upd B.names s.data.toList none) → w2.mapTurned w3 nb → DiskIn w3 S d nb sb N L { B with names := upd B.names s.data.toList none } := fun w3 hm3 ht3 => HI2.out.named (Nat.le_refl _) hm3 (mapTurned_other ht3) (by
          rintro g ⟨k, hk | hk⟩
          · unfold upd at hk
            simp only at hk
            split at hk
            · cases hk
            · exact ⟨k, .inl hk⟩
          · exact ⟨k, .inr hk⟩)
        have HIN3 := Aside0.mk hin3
        clear hin3
        go_wp2_with (first
          | (at_delete; refine wpList_delete_map _ rfl _ _ rfl nb N B.names rfl hnm s hs rfl ?_; intro w3 hm3 ht3; have HI3 := Aside0.mk (HIN3.out w3 hm3 ht3); have c3 : w3.cell? ⟨d, 1, none⟩ = some (.map (some nb)) := HI3.out.cells.1 1; have HT3 := Aside0.mk ht3; clear ht3)
          | (at_mapUpdate; refine wpList_store_map _ rfl _ _ _ rfl nb N _ rfl (by assumption) hN t ht rfl f rfl ?_; intro w4 hm4 ht4))
        go_ret
        refine ⟨true, ?_⟩
        simp only [ne_eq, not_true_eq_false, if_false]
        rw [HE.out]
        refine ⟨rfl, HI2.out.named (Nat.le_succ _) hm4 (fun k hk hl => (mapTurned_other ht4 k hk (by rw [mapTurned_size HT3.out]; exact hl)).trans (mapTurned_other HT3.out k hk hl)) ?_, (HK2.out.turned HT3.out (.inl HI2.out.sn)).turned ht4 (.inl HI2.out.sn)⟩
        rintro g ⟨k, hk | hk⟩
        · unfold upd at hk
          simp only at hk
          split at hk
          · cases hk
            exact ⟨_, .inl HM.out⟩
          · split at hk
            · cases hk
            · exact ⟨k, .inl hk⟩
        · exact ⟨k, .inr hk⟩
  · have hr' : (r != 0) = true := by rw [bne_iff_ne]; exact hr
    have hr2 : r ≠ 0 := hr
    clear hr
    go_enter Try.func20, Try.ntmps20
    go_wp2_with (go_at_call 24; refine hst.mono ?_; rintro e w1 ⟨rfl, hin, hk, hsz⟩)
    go_ret
    refine ⟨true, ?_⟩
    rw [if_pos (by simpa using hr2)]
    exact ⟨rfl, hin.mono (Nat.le_succ _) (Nat.le_refl _), hk⟩

end Go.Proofs.Ytolpgajodhondaa
