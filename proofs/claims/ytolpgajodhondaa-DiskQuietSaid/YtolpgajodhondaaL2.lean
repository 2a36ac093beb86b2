/- What the laws read: steps, truths, cuts; a disk with one file under any name. -/
import Derived.Test.YtolpgajodhondaaL1
namespace Go.Proofs.Ytolpgajodhondaa
open Go.RowKit Go.Maps Go.Sort Go.WideMaps Go.Proofs.YtolpgajodhondaaW.PrintWords

/-- A step, as its cells read. -/
structure OpAt (w : World) (ad : Addr) (i : Nat) (k : Int) (a b : ByteArray) (n : Int) (A1 A2 : Option Addr) (n1 c1 n2 c2 : Nat) : Prop where
  sa : a.size ≤ maxLen
  sb : b.size ≤ maxLen
  k0 : w.cell? (ad.add (i * 6)) = some (.int .i64 k)
  k1 : w.cell? (ad.add (i * 6 + 1)) = some (.string a)
  k2 : w.cell? (ad.add (i * 6 + 2)) = some (.string b)
  k3 : w.cell? (ad.add (i * 6 + 3)) = some (.int .i64 n)
  k4 : w.cell? (ad.add (i * 6 + 4)) = some (.slice A1 n1 c1)
  k5 : w.cell? (ad.add (i * 6 + 5)) = some (.slice A2 n2 c2)

theorem OpAt.below {w w' : World} {ad : Addr} {i : Nat} {k : Int} {a b : ByteArray} {n : Int} {A1 A2 : Option Addr} {n1 c1 n2 c2 : Nat} (h : OpAt w ad i k a b n A1 A2 n1 c1 n2 c2) (hb : Below w.heap.size w w') : OpAt w' ad i k a b n A1 A2 n1 c1 n2 c2 :=
  ⟨h.sa, h.sb, pw_cell_below hb h.k0, pw_cell_below hb h.k1, pw_cell_below hb h.k2, pw_cell_below hb h.k3, pw_cell_below hb h.k4, pw_cell_below hb h.k5⟩

/-- A row of n steps that is read. -/
def OpsRow (w : World) (v : Value) (n : Nat) : Prop :=
  ∃ (P : Option Addr) (c : Nat), v = .slice P n c ∧ n ≤ maxLen ∧ (0 < n → ∃ ad, P = some ad ∧ ∀ i, i < n → ∃ k a b m A1 A2 n1 c1 n2 c2, OpAt w ad i k a b m A1 A2 n1 c1 n2 c2)

theorem OpsRow.below {w w' : World} {v : Value} {n : Nat} (h : OpsRow w v n) (hb : Below w.heap.size w w') : OpsRow w' v n := by
  obtain ⟨P, c, e, hn, h⟩ := h
  refine ⟨P, c, e, hn, fun h0 => ?_⟩
  obtain ⟨ad, e2, h⟩ := h h0
  refine ⟨ad, e2, fun i hi => ?_⟩
  obtain ⟨k, a, b, m, A1, A2, n1, c1, n2, c2, h⟩ := h i hi
  exact ⟨k, a, b, m, A1, A2, n1, c1, n2, c2, h.below hb⟩

theorem RowOf.below {w w' : World} {v : Value} {good : Value → Prop} (h : RowOf w v good) (hb : Below w.heap.size w w') : RowOf w' v good := by
  obtain ⟨P, n, c, e, hn, h⟩ := h
  refine ⟨P, n, c, e, hn, fun h0 => ?_⟩
  obtain ⟨ad, e2, h⟩ := h h0
  refine ⟨ad, e2, fun j hj => ?_⟩
  obtain ⟨u, hu, hg⟩ := h j hj
  exact ⟨u, pw_cell_below hb hu, hg⟩

theorem CutRow.below {w w' : World} {v : Value} {xs : List Nat} (h : CutRow w v xs) (hb : Below w.heap.size w w') : CutRow w' v xs := by
  obtain ⟨P, c, e, hn, h⟩ := h
  refine ⟨P, c, e, hn, fun h0 => ?_⟩
  obtain ⟨ad, e2, h⟩ := h h0
  exact ⟨ad, e2, fun j hj => ⟨pw_cell_below hb (h j hj).1, (h j hj).2⟩⟩

/-- A disk with one file, named K. -/
structure OneK (A : Disk) (K : List UInt8) (b : List UInt8) (s : Nat) (sure : Bool) : Prop where
  down : A.down = false
  fuse : A.fuse = -1
  file : ∃ f, A.names = upd (fun _ => none) K (some f) ∧ A.sure = (if sure then A.names else fun _ => none) ∧ A.file f = (b, s)

theorem fresh_appendK {room : Int} {g : Nat} {K b : List UInt8} : OneK ((fresh room).step.1.append1 true false g K b).1 K b 0 false := by
  rw [step_calm rfl rfl]
  exact ⟨rfl, rfl, g, rfl, rfl, by simp [Disk.append1, Disk.setFile, fresh]⟩

theorem OneK.sync {A : Disk} {K b : List UInt8} {s : Nat} {sure : Bool} (h : OneK A K b s sure) : OneK (A.sync K).1 K b b.length sure ∧ (A.sync K).2 = 0 := by
  obtain ⟨h1, h2, f, h4, h5, h6⟩ := h
  unfold Disk.sync
  rw [step_calm h1 h2]
  have e : A.names K = some f := by rw [h4]; simp [upd]
  have e2 : (({ A with steps := wrap64 (A.steps + 1) } : Disk).sync1 K) = (({ A with steps := wrap64 (A.steps + 1) } : Disk).setFile f ((A.file f).1, (A.file f).1.length), 0) := by
    unfold Disk.sync1
    simp [e]
  rw [e2]
  exact ⟨⟨h1, h2, f, h4, h5, by simp [Disk.setFile, h6]⟩, rfl⟩

theorem OneK.syncNames {A : Disk} {K b : List UInt8} {s : Nat} {sure : Bool} (h : OneK A K b s sure) : OneK A.syncNames.1 K b s true ∧ A.syncNames.2 = 0 := by
  obtain ⟨h1, h2, f, h4, h5, h6⟩ := h
  unfold Disk.syncNames
  rw [step_calm h1 h2]
  exact ⟨⟨h1, h2, f, h4, rfl, h6⟩, rfl⟩

theorem OneK.keeping {A : Disk} {K b : List UInt8} (h : OneK A K b b.length true) (n : Int) : Keeping { A with fuse := n } K b.length b := by
  obtain ⟨h1, h2, f, h4, h5, h6⟩ := h
  have e : ∀ k, A.names k = some f → k = K := fun k hk => by
    rw [h4] at hk
    unfold upd at hk
    split at hk
    · assumption
    · cases hk
  simp only [if_true] at h5
  refine ⟨f, b.length, ?_, ?_, e, fun k hk => e k (h5 ▸ hk), h6, Nat.le_refl _, Nat.le_refl _⟩
  · show A.names K = some f
    rw [h4]; simp [upd]
  · show A.sure K = some f
    rw [h5, h4]; simp [upd]

theorem now_fuse {w : World} {base top d N L : Nat} {P Q : Disk → Prop} (h : DiskNow w base top d N L P) (hbase : base ≤ w.heap.size) (n : Int) (hQ : ∀ B, P B → Q { B with fuse := n }) :
    Calls Try.prog 11 #[.pointer (some ⟨d, 0, none⟩), .int .i64 n] w (NowPost w base d N L Q (fun v => v = .tuple #[])) := by
  obtain ⟨ht, nb, sb, B, hin, hP⟩ := h
  refine (fuse_any w _ d nb sb N L B n hin).mono ?_
  rintro e w' ⟨rfl, hin', hk, _⟩
  exact ⟨_, rfl, rfl, now_of hin' (hQ B hP) (fun k hk => hk.1), hk.below hbase (fun k hk => hk.1)⟩

theorem DiskNow.mono {w : World} {base top d N L N' L' : Nat} {P Q : Disk → Prop} (h : DiskNow w base top d N L P) (hN : N ≤ N') (hL : L ≤ L') (hP : ∀ A, P A → Q A) : DiskNow w base top d N' L' Q := by
  obtain ⟨ht, nb, sb, A, hin, hA⟩ := h
  exact ⟨ht, nb, sb, A, hin.mono hN hL, hP A hA⟩

/-- The disk's files lie below the heap's end. -/
theorem DiskIn.refs_lt {w : World} {S : Nat → Prop} {d nb sb N L : Nat} {A : Disk} (h : DiskIn w S d nb sb N L A) : ∀ f, A.refs f → f < w.heap.size := fun f hf => by
  obtain ⟨_, v, h2, _⟩ := h.files f hf
  exact blk_lt' h2

theorem Two.mono {w : World} {Sd Sq : Nat → Prop} {d q N L N' L' : Nat} {A : Disk} (h : Two w Sd Sq d q N L A) (hN : N ≤ N') (hL : L ≤ L') : Two w Sd Sq d q N' L' A := by
  obtain ⟨⟨nb, sb, h1⟩, h2, h3, h4⟩ := h
  exact ⟨⟨nb, sb, h1.mono hN hL⟩, h2.mono hN hL, h3, h4⟩

/-- Both disks at the start: the document's is new. -/
theorem Two.start {w w' : World} {base top d q N L : Nat} {P : Disk → Prop} (h : DiskNow w base top d N L P) (hq : RefIn w' (fun k => w.heap.size ≤ k) q 0 0) (hb : Below w.heap.size w w') :
    ∃ A, P A ∧ Two w' (fun k => base ≤ k ∧ k < top) (fun k => w.heap.size ≤ k ∧ k < w'.heap.size) d q N L A := by
  obtain ⟨ht, nb, sb, A, hin, hP⟩ := h
  refine ⟨A, hP, ⟨nb, sb, hin.beside hb⟩, hq.tight.mono (Nat.zero_le _) (Nat.zero_le _), fun k hk hq => by omega, ?_⟩
  have := hb.size
  rintro k (hk | hk) <;> omega

end Go.Proofs.Ytolpgajodhondaa
