/- The arguments' rows, read: steps, truths, cuts. -/
import Derived.Test.YtolpgajodhondaaL2
import Derived.Deep.Slices
import Derived.Deep.Fields
import Derived.ChangeSame
import Derived.OpenShut
namespace Go.Proofs.Ytolpgajodhondaa
open Go.RowKit Go.ChangeShapes Go.WideShapes Go.Deep Go.Proofs.YtolpgajodhondaaW.PrintWords

section
variable {H : Type} {enc : TypeId × Value → H} {w : World} {A : Option Addr} {n c : Nat} {d : DataW H} {p : List MemPlace}

theorem slice_cells (h : ([Value.slice A n c] : List Value) = [.slice none 0 0]) : A = none ∧ n = 0 ∧ c = 0 := by simpa using h

/-- A row of truths. -/
theorem read_bools (h : DataW.Trod enc Try.prog w 0 (fun _ => true) true 23 (.slice A n c) d p) : RowOf w (.slice A n c) fun u => ∃ b, u = .bool b := by
  obtain ⟨fuel, hf⟩ := h
  have hC : Try.prog.cellsOf 4 = 1 := by kernel_rfl
  rcases Go.Deep.open_slice Try.underlying23 hf with ⟨hcs, _⟩ | ⟨a, len, cap, m, k, D, Pl, hcs, _, hl, hm, hmm, _, hi⟩
  · obtain ⟨rfl, rfl, rfl⟩ := slice_cells hcs
    exact ⟨none, 0, 0, rfl, by decide, fun h0 => absurd h0 (by decide)⟩
  · obtain ⟨rfl, rfl, rfl⟩ : A = some a ∧ n = len ∧ c = cap := by simpa [Value.cells] using hcs
    simp only [if_true] at hmm
    subst hmm
    refine ⟨_, n, m, rfl, by simp only [maxLen] at hm; omega, fun _ => ⟨a, rfl, fun j hj => ?_⟩⟩
    obtain ⟨cs', h1, h2⟩ := hi j (by omega)
    rw [hC] at h1
    obtain ⟨_, h3, h4⟩ := World.cells?_some h1
    obtain ⟨b, rfl, _⟩ := DataW.trod_bool Try.underlying4 h2
    have := h4 0 (by decide)
    rw [Go.Deep.add_add] at this
    refine ⟨.bool b, ?_, b, rfl⟩
    simpa using this

/-- A row of cuts. -/
theorem read_cuts (h : DataW.Trod enc Try.prog w 0 (fun _ => true) true 24 (.slice A n c) d p) :
    ∃ cut : List Nat, CutRow w (.slice A n c) cut ∧ (cut.length = 0 ∨ ∃ es sp, d = .slice es sp ∧ es.length = cut.length) := by
  obtain ⟨fuel, hf⟩ := h
  rcases open_ints Try.underlying24 Try.underlying46 (by kernel_rfl) hf with ⟨hcs, _⟩ | ⟨x, l, cc, zs, hcs, _, hl, hm, hz, hx, hcell, hwz⟩
  · obtain ⟨rfl, rfl, rfl⟩ := slice_cells hcs
    exact ⟨[], ⟨none, 0, rfl, by decide, fun h0 => absurd h0 (by decide)⟩, .inl rfl⟩
  · obtain ⟨rfl, rfl, rfl⟩ : A = some x ∧ n = l ∧ c = cc := by simpa [Value.cells] using hcs
    simp only [if_true] at hz
    have hlen : ((zs.take n).map Int.toNat).length = n := by rw [List.length_map, List.length_take]; omega
    refine ⟨(zs.take n).map Int.toNat, ⟨some x, c, by rw [hlen], by rw [hlen]; simp only [maxLen] at hm; omega, fun _ => ⟨x, rfl, fun j hj => ?_⟩⟩, .inr ⟨_, _, congrArg Prod.fst hx, ?_⟩⟩
    · rw [hlen] at hj
      have hjz : j < zs.length := by omega
      have hb := bounds_u16 (hwz _ (List.getElem_mem hjz))
      have e : ((zs.take n).map Int.toNat).getD j 0 = (zs[j]).toNat := by
        rw [List.getD_eq_getElem?_getD, List.getElem?_map, List.getElem?_take, if_pos hj, List.getElem?_eq_getElem hjz]
        rfl
      rw [e]
      refine ⟨?_, by omega⟩
      rw [hcell j hjz, List.getD_eq_getElem?_getD, List.getElem?_eq_getElem hjz]
      have : ((zs[j]).toNat : Int) = zs[j] := Int.toNat_of_nonneg hb.1
      rw [this]
      rfl
    · rw [hlen]
      simp [lits]
      omega

/-- A field of a step. -/
theorem op_field {k : Nat} {cs : List Value} {x : DataW H × List MemPlace} {ad : Addr} (h : DataW.trod enc Try.prog w 0 (fun _ => true) true k 38 cs = some x) (hc : ∀ j, j < 6 → w.cell? (ad.add j) = cs[j]?) (hl : cs.length = 6) :
    ∃ (k' : Nat) (vs : List Value), vs.length = 6 ∧ (∀ j, j < 6 → w.cell? (ad.add j) = vs[j]?) ∧
      ∀ (j : Nat) (t : TypeId) (v : Value), [3, 9, 9, 3, 23, 24][j]? = some t → vs[j]? = some v → ∃ y, DataW.trod enc Try.prog w 0 (fun _ => true) true k' t [v] = some y := by
  obtain ⟨ys, n', _, _, _, hyl, hf⟩ := DataW.trod_struct Try.underlying38 h
  refine ⟨n', cs, hl, hc, fun j t v ht hv => ?_⟩
  have hj : j < 6 := by
    have := (List.getElem?_eq_some_iff.1 ht).1
    simpa using this
  have hys : ∃ y, ys[j]? = some y := ⟨_, List.getElem?_eq_getElem (by simpa [hyl] using hj)⟩
  obtain ⟨y, hy⟩ := hys
  obtain ⟨hvl, hve⟩ := List.getElem?_eq_some_iff.1 hv
  have key : ∀ f : Field, (#[{ name := "Kind", type := 3, offset := 0, embedded := false, tag := "", pkgPath := "", byteOffset := 0 }, { name := "A", type := 9, offset := 1, embedded := false, tag := "", pkgPath := "", byteOffset := 8 }, { name := "B", type := 9, offset := 2, embedded := false, tag := "", pkgPath := "", byteOffset := 24 }, { name := "N", type := 3, offset := 3, embedded := false, tag := "", pkgPath := "", byteOffset := 40 }, { name := "Keep", type := 23, offset := 4, embedded := false, tag := "", pkgPath := "", byteOffset := 48 }, { name := "Cut", type := 24, offset := 5, embedded := false, tag := "", pkgPath := "", byteOffset := 72 }] : Array Field)[j]? = some f → f.type = t ∧ f.offset = j ∧ Try.prog.cellsOf f.type = 1 := by
    intro f hf'
    have c3 : Try.prog.cellsOf 3 = 1 := by kernel_rfl
    have c9 : Try.prog.cellsOf 9 = 1 := by kernel_rfl
    have c23 : Try.prog.cellsOf 23 = 1 := by kernel_rfl
    have c24 : Try.prog.cellsOf 24 = 1 := by kernel_rfl
    match j, hj with
    | 0, _ => simp at ht hf'; subst ht hf'; exact ⟨rfl, rfl, c3⟩
    | 1, _ => simp at ht hf'; subst ht hf'; exact ⟨rfl, rfl, c9⟩
    | 2, _ => simp at ht hf'; subst ht hf'; exact ⟨rfl, rfl, c9⟩
    | 3, _ => simp at ht hf'; subst ht hf'; exact ⟨rfl, rfl, c3⟩
    | 4, _ => simp at ht hf'; subst ht hf'; exact ⟨rfl, rfl, c23⟩
    | 5, _ => simp at ht hf'; subst ht hf'; exact ⟨rfl, rfl, c24⟩
  have hex : ∃ f : Field, (#[{ name := "Kind", type := 3, offset := 0, embedded := false, tag := "", pkgPath := "", byteOffset := 0 }, { name := "A", type := 9, offset := 1, embedded := false, tag := "", pkgPath := "", byteOffset := 8 }, { name := "B", type := 9, offset := 2, embedded := false, tag := "", pkgPath := "", byteOffset := 24 }, { name := "N", type := 3, offset := 3, embedded := false, tag := "", pkgPath := "", byteOffset := 40 }, { name := "Keep", type := 23, offset := 4, embedded := false, tag := "", pkgPath := "", byteOffset := 48 }, { name := "Cut", type := 24, offset := 5, embedded := false, tag := "", pkgPath := "", byteOffset := 72 }] : Array Field)[j]? = some f := ⟨_, Array.getElem?_eq_getElem (by simpa using hj)⟩
  obtain ⟨f, hf'⟩ := hex
  obtain ⟨k1, k2, k3⟩ := key f hf'
  have h1 := hf j f hf'
  rw [k3, k2, List.drop_eq_getElem_cons hvl, hve, k1] at h1
  exact ⟨y, h1.trans hy⟩

/-- A row of steps. -/
theorem read_ops (h : DataW.Trod enc Try.prog w 0 (fun _ => true) true 22 (.slice A n c) d p) : OpsRow w (.slice A n c) n := by
  obtain ⟨fuel, hf⟩ := h
  have hC : Try.prog.cellsOf 38 = 6 := by kernel_rfl
  rcases Go.Deep.open_slice Try.underlying22 hf with ⟨hcs, _⟩ | ⟨a, len, cap, m, k, D, Pl, hcs, _, hl, hm, hmm, _, hi⟩
  · obtain ⟨rfl, rfl, rfl⟩ := slice_cells hcs
    exact ⟨none, 0, rfl, by decide, fun h0 => absurd h0 (by decide)⟩
  · obtain ⟨rfl, rfl, rfl⟩ : A = some a ∧ n = len ∧ c = cap := by simpa [Value.cells] using hcs
    simp only [if_true] at hmm
    subst hmm
    refine ⟨_, m, rfl, by omega, fun _ => ⟨a, rfl, fun i hin => ?_⟩⟩
    obtain ⟨cs', h1, h2⟩ := hi i (by omega)
    rw [hC] at h1
    obtain ⟨_, h3, h4⟩ := World.cells?_some h1
    obtain ⟨k', vs, hvl, hvc, hv⟩ := op_field h2 h4 h3
    match vs, hvl with
    | [v0, v1, v2, v3, v4, v5], _ =>
      obtain ⟨y0, t0⟩ := hv 0 3 v0 rfl rfl
      obtain ⟨y1, t1⟩ := hv 1 9 v1 rfl rfl
      obtain ⟨y2, t2⟩ := hv 2 9 v2 rfl rfl
      obtain ⟨y3, t3⟩ := hv 3 3 v3 rfl rfl
      obtain ⟨y4, t4⟩ := hv 4 23 v4 rfl rfl
      obtain ⟨y5, t5⟩ := hv 5 24 v5 rfl rfl
      obtain ⟨z0, e0, _, _⟩ := DataW.trod_int Try.underlying3 t0
      obtain ⟨z1, e1, _, s1⟩ := DataW.trod_string Try.underlying9 t1
      obtain ⟨z2, e2, _, s2⟩ := DataW.trod_string Try.underlying9 t2
      obtain ⟨z3, e3, _, _⟩ := DataW.trod_int Try.underlying3 t3
      have e4 : ∃ A1 n1 c1, v4 = .slice A1 n1 c1 := by
        rcases Go.Deep.open_slice Try.underlying23 t4 with ⟨hcs, _⟩ | ⟨a', len, cap, _, _, _, _, hcs, _⟩
        · exact ⟨_, _, _, by simpa using hcs⟩
        · exact ⟨_, _, _, by simpa using hcs⟩
      have e5 : ∃ A1 n1 c1, v5 = .slice A1 n1 c1 := by
        rcases Go.Deep.open_slice Try.underlying24 t5 with ⟨hcs, _⟩ | ⟨a', len, cap, _, _, _, _, hcs, _⟩
        · exact ⟨_, _, _, by simpa using hcs⟩
        · exact ⟨_, _, _, by simpa using hcs⟩
      obtain ⟨A1, n1, c1, rfl⟩ := e4
      obtain ⟨A2, n2, c2, rfl⟩ := e5
      simp only [List.cons.injEq, and_true] at e0 e1 e2 e3
      subst e0 e1 e2 e3
      have g : ∀ j, j < 6 → w.cell? (a.add (i * 6 + j)) = [Value.int .i64 z0, .string z1, .string z2, .int .i64 z3, .slice A1 n1 c1, .slice A2 n2 c2][j]? := fun j hj => by
        have := hvc j hj
        rwa [Go.Deep.add_add] at this
      exact ⟨z0, z1, z2, z3, A1, A2, n1, c1, n2, c2, s1, s2, g 0 (by decide), g 1 (by decide), g 2 (by decide), g 3 (by decide), g 4 (by decide), g 5 (by decide)⟩
end

end Go.Proofs.Ytolpgajodhondaa
