/- A disk all of whose files and names are sure loses nothing. -/
import Derived.Test.YtolpgajodhondaaL2
import Derived.Test.YtolpgajodhondaaC1
namespace Go.Proofs.Ytolpgajodhondaa
open Go.RowKit Go.Maps Go.Sort Go.WideMaps Go.Proofs.YtolpgajodhondaaW.PrintWords

/-- Power is there, the names are m, all names and all files are sure. -/
structure Settled (m : List UInt8 → Option Nat) (A : Disk) : Prop where
  down : A.down = false
  fuse : A.fuse = -1
  names : A.names = m
  sure : A.sure = m
  full : ∀ f, A.refs f → (A.file f).2 = (A.file f).1.length

/-- Behind a loss of power. -/
theorem crash_settled {A : Disk} {cut : List Nat} {ts : List (List UInt8)} {m : List UInt8 → Option Nat} {F : Nat → List UInt8 × Nat} (hle : ∀ f, A.refs f → (A.file f).2 ≤ (A.file f).1.length) (hc : CrashKept A cut ts m F) : Settled m (A.crashed m F) := by
  refine ⟨rfl, rfl, rfl, rfl, fun g hg => ?_⟩
  obtain ⟨k, hk⟩ := hg
  have hk' : m k = some g := by rcases hk with h | h <;> exact h
  obtain ⟨f, i, hf, _, hF⟩ := hc.came k g hk'
  show (F g).2 = (F g).1.length
  have h1 := hle f ⟨k, hf.symm⟩
  have h2 := cutLen_le cut i _ _ h1
  rw [hF]
  show cutLen cut i (A.file f).2 (A.file f).1.length = ((A.file f).1.take (cutLen cut i (A.file f).2 (A.file f).1.length)).length
  rw [List.length_take]
  omega

/-- Two disks with one's names and bytes. -/
structure Same (A B : Disk) : Prop where
  has : ∀ k, (B.names k).isSome = (A.names k).isSome
  bytes : ∀ k f g, A.names k = some f → B.names k = some g → (B.file g).1 = (A.file f).1

theorem crash_same {A : Disk} {m0 : List UInt8 → Option Nat} {cut : List Nat} {ts : List (List UInt8)} {m : List UInt8 → Option Nat} {F : Nat → List UInt8 × Nat} (h : Settled m0 A) (hc : CrashKept A cut ts m F) : Same A (A.crashed m F) := by
  refine ⟨fun k => ?_, fun k f g hf hg => ?_⟩
  · show (m k).isSome = _
    cases e : A.names k with
    | some f =>
      rw [hc.stay k f e (by rw [h.sure, ← h.names]; exact e)]
      rfl
    | none =>
      cases e2 : m k with
      | none => rfl
      | some g =>
        obtain ⟨f, i, hf, _, _⟩ := hc.came k g e2
        rw [h.sure, ← h.names, e] at hf
        rcases hf with h | h <;> cases h
  · have hg' : m k = some g := hg
    obtain ⟨f', i, hf', _, hF⟩ := hc.came k g hg'
    rw [h.sure, ← h.names, hf] at hf'
    have hff : f = f' := by rcases hf' with h | h <;> cases h <;> rfl
    subst hff
    show (F g).1 = _
    rw [hF, h.full f ⟨k, .inl hf⟩]
    have hcl : cutLen cut i (A.file f).1.length (A.file f).1.length = (A.file f).1.length := by
      unfold cutLen
      rw [if_neg (by omega)]
    rw [hcl]
    exact List.take_length

theorem Settled.step {m : List UInt8 → Option Nat} {A : Disk} (h : Settled m A) : A.step = ({ A with steps := wrap64 (A.steps + 1) }, 0) := step_calm h.down h.fuse

theorem Settled.steps {m : List UInt8 → Option Nat} {A : Disk} (h : Settled m A) (n : Int) : Settled m { A with steps := n } := ⟨h.down, h.fuse, h.names, h.sure, h.full⟩

/-- All but the file of one name are sure. -/
structure But (m : List UInt8 → Option Nat) (k : List UInt8) (A : Disk) : Prop where
  down : A.down = false
  fuse : A.fuse = -1
  names : A.names = m
  sure : A.sure = m
  full : ∀ f, m k ≠ some f → A.refs f → (A.file f).2 = (A.file f).1.length
  has : (m k).isSome = true

theorem Settled.append {m : List UInt8 → Option Nat} {A : Disk} (h : Settled m A) (ok full : Bool) (g : Nat) (k b : List UInt8) (hk : (m k).isSome = true) :
    But m k (if A.step.2 ≠ 0 then A.step else A.step.1.append1 ok full g k b).1 := by
  rw [h.step, if_neg (by simp)]
  have h' := h.steps (wrap64 (A.steps + 1))
  revert h'
  generalize ({ A with steps := wrap64 (A.steps + 1) } : Disk) = B
  intro h'
  have hb : But m k B := ⟨h'.down, h'.fuse, h'.names, h'.sure, fun f _ hf => h'.full f hf, hk⟩
  show But m k (B.append1 ok full g k b).1
  unfold Disk.append1
  split
  · exact hb
  · split
    · exact hb
    · obtain ⟨f, hf⟩ := Option.isSome_iff_exists.1 hk
      have e : B.names k = some f := by rw [h'.names]; exact hf
      rw [e]
      refine ⟨h'.down, h'.fuse, h'.names, h'.sure, fun f' hf' hr => ?_, hk⟩
      have hne : f' ≠ f := fun e' => hf' (by rw [e']; exact hf)
      show (if f' = f then _ else B.file f').2 = (if f' = f then _ else B.file f').1.length
      rw [if_neg hne]
      exact h'.full f' hr

theorem But.sync {m : List UInt8 → Option Nat} {k : List UInt8} {A : Disk} (h : But m k A) : Settled m (A.sync k).1 := by
  unfold Disk.sync
  rw [step_calm h.down h.fuse, if_neg (by simp)]
  obtain ⟨f, hf⟩ := Option.isSome_iff_exists.1 h.has
  have e : A.names k = some f := by rw [h.names]; exact hf
  unfold Disk.sync1
  simp only [e]
  refine ⟨h.down, h.fuse, h.names, h.sure, fun f' hr => ?_⟩
  show (if f' = f then _ else A.file f').2 = (if f' = f then _ else A.file f').1.length
  by_cases hff : f' = f
  · rw [if_pos hff]
  · rw [if_neg hff]
    exact h.full f' (fun e' => hff (by rw [hf] at e'; cases e'; rfl)) hr

theorem Settled.syncNames {m : List UInt8 → Option Nat} {A : Disk} (h : Settled m A) : Settled m A.syncNames.1 := by
  unfold Disk.syncNames
  rw [h.step, if_neg (by simp)]
  refine ⟨h.down, h.fuse, h.names, h.names, fun f hf => h.full f ?_⟩
  obtain ⟨k, hk⟩ := hf
  exact ⟨k, .inl (by rcases hk with hk | hk <;> exact hk)⟩

theorem keys_length {m m' : List UInt8 → Option Nat} {n n' : Nat} {ks ks' : List (List UInt8)} (h : KeysOfMap m n ks) (h' : KeysOfMap m' n' ks') (hm : ∀ k, (m' k).isSome = (m k).isSome) : ks'.length = ks.length := by
  have hp : ks'.Perm ks := (List.perm_ext_iff_of_nodup h'.nodup h.nodup).2 fun k => by rw [h'.mem, h.mem, hm]
  exact hp.length_eq

/-- Appending, whatever comes of it. -/
theorem now_appendAny {w : World} {base top d N L : Nat} {P Q : Disk → Prop} (h : DiskNow w base top d N L P) (hbase : base ≤ w.heap.size) (s : ByteArray) (c : List UInt8) (hs : s.size ≤ maxLen) (hN : N < maxLen) (hL : L + c.length ≤ 1152921504606) (hNL : N * L ≤ 4611686018427387903)
    (A : Option Addr) (cc : Nat) (hr : ReadsInt w .u8 A c.length (ints c)) (hA : ∀ a, A = some a → top ≤ a.block)
    (hQ : ∀ B, P B → ∀ ok full g, Q (if B.step.2 ≠ 0 then B.step else B.step.1.append1 ok full g s.data.toList c).1) :
    Calls Try.prog 8 #[.pointer (some ⟨d, 0, none⟩), .string s, .slice A c.length cc] w (NowPost w base d (N + 1) (L + c.length) Q (fun v => ∃ n, v = .int .i64 n)) := by
  obtain ⟨ht, nb, sb, B, hin, hP⟩ := h
  refine (append_any w _ d nb sb N L B s c A cc hs hN hNL hL hr (fun a ha hS => by have := hA a ha; omega) hin).mono ?_
  rintro e w' ⟨ok, full, g, hok, hfull, hg, rfl, hin', hk⟩
  exact ⟨_, rfl, ⟨_, rfl⟩, now_of hin' (hQ B hP ok full g) (fun k hk => by rcases hk with hk | hk <;> omega), hk.below hbase (fun k hk => hk.1)⟩

end Go.Proofs.Ytolpgajodhondaa
