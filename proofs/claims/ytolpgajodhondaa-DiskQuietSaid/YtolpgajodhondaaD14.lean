/- The document's example of a disk. -/
import Derived.Test.YtolpgajodhondaaD13
namespace Go.Proofs.Ytolpgajodhondaa
open Go.RowKit Go.Maps Go.Sort Go.WideMaps Go.Proofs.YtolpgajodhondaaW.PrintWords

theorem own_beside {w w' : World} {base n : Nat} {e : TypeId} {size : Nat} {v : Value} {xs : List Value} (h : w.ownsRow base e size v n xs) (hb : Below w.heap.size w w') : w'.ownsRow base e size v n xs :=
  ⟨h.1, h.2.imp id fun ⟨g, cap, cur, e1, h0, hg, r⟩ => ⟨g, cap, cur, e1, h0, (hb.block g (blk_lt' hg)).trans hg, r⟩⟩

theorem BytesAt.tight {w : World} {S : Nat → Prop} {v : Value} {l : List UInt8} (h : BytesAt w S v l) : BytesAt w (fun k => S k ∧ k < w.heap.size) v l := by
  rcases h with h | ⟨b, off, c, cur, fr, h1, h2, h3, h5, h6, h7⟩
  · exact .inl h
  · exact .inr ⟨b, off, c, cur, fr, h1, h2, h3, ⟨h5, blk_lt' h6⟩, h6, h7⟩

theorem FileAt.tight {w : World} {S : Nat → Prop} {f L : Nat} {x : List UInt8 × Nat} (h : FileAt w S f L x) : FileAt w (fun k => S k ∧ k < w.heap.size) f L x := by
  obtain ⟨h1, v, h2, h3, h4⟩ := h
  exact ⟨⟨h1, blk_lt h2⟩, v, h2, h3.tight, h4⟩

theorem DiskIn.tight {w : World} {S : Nat → Prop} {d nb sb N L : Nat} {A : Disk} (h : DiskIn w S d nb sb N L A) : DiskIn w (fun k => S k ∧ k < w.heap.size) d nb sb N L A :=
  ⟨⟨h.sd, blk_lt h.blk⟩, ⟨h.sn, h.names.lt⟩, ⟨h.ss, h.sure.lt⟩, h.ne, h.blk, h.names, h.sure, fun f hf => (h.files f hf).tight⟩

/-- The power lasts. -/
theorem step_calm {A : Disk} (hd : A.down = false) (hf : A.fuse = -1) : A.step = ({ A with steps := wrap64 (A.steps + 1) }, 0) := by
  unfold Disk.step
  rw [hd, hf]
  cases A
  simp_all

/-- A disk with one file, "f". -/
structure One (A : Disk) (room : Int) (b : List UInt8) (s : Nat) (sure : Bool) : Prop where
  down : A.down = false
  fuse : A.fuse = -1
  room : A.room = room
  file : ∃ f, A.names = upd (fun _ => none) [102] (some f) ∧ A.sure = (if sure then A.names else fun _ => none) ∧ A.file f = (b, s)

theorem fresh_append {room : Int} {g : Nat} {b : List UInt8} : One ((fresh room).step.1.append1 true false g [102] b).1 room b 0 false := by
  rw [step_calm rfl rfl]
  exact ⟨rfl, rfl, rfl, g, rfl, rfl, by simp [Disk.append1, Disk.setFile, fresh]⟩

theorem One.append {A : Disk} {room : Int} {b c : List UInt8} {s : Nat} {sure : Bool} (h : One A room b s sure) (g : Nat) : One (A.step.1.append1 true false g [102] c).1 room (b ++ c) s sure := by
  obtain ⟨h1, h2, h3, f, h4, h5, h6⟩ := h
  rw [step_calm h1 h2]
  have e : A.names [102] = some f := by rw [h4]; rfl
  have e2 : (({ A with steps := wrap64 (A.steps + 1) } : Disk).append1 true false g [102] c).1 = ({ A with steps := wrap64 (A.steps + 1) } : Disk).setFile f ((A.file f).1 ++ c, (A.file f).2) := by
    unfold Disk.append1
    simp [e]
  rw [e2]
  exact ⟨h1, h2, h3, f, h4, h5, by simp [Disk.setFile, h6]⟩

theorem One.sync {A : Disk} {room : Int} {b : List UInt8} {s : Nat} {sure : Bool} (h : One A room b s sure) : One (A.sync [102]).1 room b b.length sure := by
  obtain ⟨h1, h2, h3, f, h4, h5, h6⟩ := h
  unfold Disk.sync
  rw [step_calm h1 h2]
  have e : A.names [102] = some f := by rw [h4]; rfl
  have e2 : (({ A with steps := wrap64 (A.steps + 1) } : Disk).sync1 [102]) = (({ A with steps := wrap64 (A.steps + 1) } : Disk).setFile f ((A.file f).1, (A.file f).1.length), 0) := by
    unfold Disk.sync1
    simp [e]
  rw [e2]
  exact ⟨h1, h2, h3, f, h4, h5, by simp [Disk.setFile, h6]⟩

theorem One.syncNames {A : Disk} {room : Int} {b : List UInt8} {s : Nat} {sure : Bool} (h : One A room b s sure) : One ({ A.step.1 with sure := A.step.1.names } : Disk) room b s true := by
  obtain ⟨h1, h2, h3, f, h4, h5, h6⟩ := h
  rw [step_calm h1 h2]
  exact ⟨h1, h2, h3, f, h4, rfl, h6⟩

theorem One.crash {A : Disk} {room : Int} {b : List UInt8} {s : Nat} (h : One A room b s true) {cut : List Nat} {ts : List (List UInt8)} {m : List UInt8 → Option Nat} {F : Nat → List UInt8 × Nat} (hk : CrashKept A cut ts m F) :
    ∃ g, m [102] = some g ∧ F g = cutTo (b, s) (cutLen cut 0 s b.length) := by
  obtain ⟨h1, h2, h3, f, h4, h5, h6⟩ := h
  simp only [if_true] at h5
  have e : A.names [102] = some f := by rw [h4]; rfl
  have e2 : A.sure [102] = some f := by rw [h5]; exact e
  have hm := hk.stay [102] f e e2
  obtain ⟨g, hg⟩ := Option.isSome_iff_exists.1 hm
  refine ⟨g, hg, ?_⟩
  obtain ⟨f', i, hf', hi, hF⟩ := hk.came _ _ hg
  have hff : f' = f := by
    rcases hf' with h | h
    · rw [e2] at h; cases h; rfl
    · rw [e] at h; cases h; rfl
  subst hff
  have hall : ∀ k ∈ ts, k = [102] := fun k hk' => by
    rcases hk.some k hk' with h | h
    all_goals
      try rw [h5] at h
      rw [h4] at h
      unfold upd at h
      by_cases e3 : k = [102]
      · exact e3
      · rw [if_neg e3] at h; cases h
  have hi0 : i = 0 := by
    have hlt : i < ts.length := (List.getElem?_eq_some_iff.1 hi).1
    have h0 : ts[0]? = some [102] := by
      rw [List.getElem?_eq_getElem (by omega), hall _ (List.getElem_mem _)]
    exact (List.getElem?_inj hlt hk.nodup).1 (hi.trans h0.symm)
  rw [hF, hi0, h6]

/-- A disk, by what is known of it; its blocks are new. -/
def DiskNow (w : World) (base top d N L : Nat) (P : Disk → Prop) : Prop :=
  top ≤ w.heap.size ∧ ∃ nb sb A, DiskIn w (fun k => base ≤ k ∧ k < top) d nb sb N L A ∧ P A

theorem DiskNow.beside {w w' : World} {base top d N L : Nat} {P : Disk → Prop} (h : DiskNow w base top d N L P) (hb : Below w.heap.size w w') : DiskNow w' base top d N L P := by
  obtain ⟨ht, nb, sb, A, hin, hP⟩ := h
  exact ⟨Nat.le_trans ht hb.size, nb, sb, A, hin.beside hb, hP⟩

def NowPost (w : World) (base d N L : Nat) (P : Disk → Prop) (r : Value → Prop) (e : Ending) (w' : World) : Prop := ∃ v, e = .returned v ∧ r v ∧ DiskNow w' base w'.heap.size d N L P ∧ Below base w w'

theorem now_of {w' : World} {S : Nat → Prop} {base d nb sb N L : Nat} {A : Disk} {P : Disk → Prop} (h : DiskIn w' S d nb sb N L A) (hP : P A) (hS : ∀ k, S k → base ≤ k) : DiskNow w' base w'.heap.size d N L P :=
  ⟨Nat.le_refl _, nb, sb, A, h.tight.keep (fun _ _ _ => rfl) (fun k hk => ⟨hS k hk.1, hk.2⟩), hP⟩

theorem now_append {w : World} {base top d N L : Nat} {P Q : Disk → Prop} (h : DiskNow w base top d N L P) (hbase : base ≤ w.heap.size) (s : ByteArray) (c : List UInt8) (hs : s.size ≤ maxLen) (hN : N < 256) (hL : L + c.length ≤ 1152921504606) (hNL : N * L ≤ 4611686018427387903)
    (A : Option Addr) (cc : Nat) (hr : ReadsInt w .u8 A c.length (ints c)) (hA : ∀ a, A = some a → top ≤ a.block)
    (hQ : ∀ B, P B → B.step.2 = 0 ∧ plain s = true ∧ ((N * L + c.length : Nat) : Int) ≤ B.step.1.room ∧ ∀ g, Q (B.step.1.append1 true false g s.data.toList c).1 ∧ (B.step.1.append1 true false g s.data.toList c).2 = 0) :
    Calls Try.prog 8 #[.pointer (some ⟨d, 0, none⟩), .string s, .slice A c.length cc] w (NowPost w base d (N + 1) (L + c.length) Q (fun v => v = .int .i64 0)) := by
  obtain ⟨ht, nb, sb, B, hin, hP⟩ := h
  obtain ⟨q0, q1, q2, q3⟩ := hQ B hP
  refine (append_any w _ d nb sb N L B s c A cc hs (by unfold maxLen; omega) hNL hL hr (fun a ha hS => by have := hA a ha; omega) hin).mono ?_
  rintro e w' ⟨ok, full, g, hok, hfull, hg, rfl, hin', hk⟩
  have e1 := hok q1
  have e2 := hfull q2 hN
  subst e1
  subst e2
  rw [if_neg (fun h => h q0)] at hin' ⊢
  obtain ⟨q4, q5⟩ := q3 g
  exact ⟨_, rfl, by rw [q5], now_of hin' q4 (fun k hk => by rcases hk with hk | hk <;> omega), hk.below hbase (fun k hk => hk.1)⟩

theorem now_sync {w : World} {base top d N L : Nat} {P Q : Disk → Prop} (h : DiskNow w base top d N L P) (hbase : base ≤ w.heap.size) (s : ByteArray) (hs : s.size ≤ maxLen) (r : Value → Prop)
    (hQ : ∀ B, P B → Q (B.sync s.data.toList).1 ∧ r (.int .i64 (B.sync s.data.toList).2)) :
    Calls Try.prog 9 #[.pointer (some ⟨d, 0, none⟩), .string s] w (NowPost w base d N L Q r) := by
  obtain ⟨ht, nb, sb, B, hin, hP⟩ := h
  refine (sync_any w _ d nb sb N L B s hs hin).mono ?_
  rintro e w' ⟨rfl, hin', hk, _⟩
  exact ⟨_, rfl, (hQ B hP).2, now_of hin' (hQ B hP).1 (fun k hk => hk.1), hk.below hbase (fun k hk => hk.1)⟩

theorem now_syncNames {w : World} {base top d N L : Nat} {P Q : Disk → Prop} (h : DiskNow w base top d N L P) (hbase : base ≤ w.heap.size) (r : Value → Prop)
    (hQ : ∀ B, P B → Q (B.syncNames).1 ∧ r (.int .i64 (B.syncNames).2)) :
    Calls Try.prog 10 #[.pointer (some ⟨d, 0, none⟩)] w (NowPost w base d N L Q r) := by
  obtain ⟨ht, nb, sb, B, hin, hP⟩ := h
  refine (syncNames_any w _ d nb sb N L B hin).mono ?_
  rintro e w' ⟨sb', rfl, hin', hk⟩
  exact ⟨_, rfl, (hQ B hP).2, now_of hin' (hQ B hP).1 (fun k hk => by rcases hk with hk | hk <;> omega), hk.below hbase (fun k hk => hk.1)⟩

/-- What a read file is. -/
def GotPost (w : World) (b : List UInt8) (e : Ending) (w' : World) : Prop :=
  ∃ v, e = .returned (.tuple #[v, .int .i64 0]) ∧ w'.ownsRow w.heap.size 5 1 v b.length (nums .u8 (ints b)) ∧ Below w.heap.size w w'

def PtrPost (w : World) (base N L : Nat) (P : Disk → Prop) (e : Ending) (w' : World) : Prop :=
  ∃ o, e = .returned (.pointer (some ⟨o, 0, none⟩)) ∧ DiskNow w' base w'.heap.size o N L P ∧ Below w.heap.size w w'

theorem now_crash {w : World} {base top d N L : Nat} {P Q : Disk → Prop} (h : DiskNow w base top d N L P) (hbase : base ≤ w.heap.size) (vk vc : Value) (cut : List Nat) (hN : N ≤ 4398046511103) (hL : L ≤ 1152921504606) (hvk : RowOf w vk fun u => ∃ b, u = .bool b) (hvc : CutRow w vc cut)
    (hQ : ∀ B, P B → ∀ ts m F, CrashKept B cut ts m F → Q (B.crashed m F)) :
    Calls Try.prog 14 #[.pointer (some ⟨d, 0, none⟩), vk, vc] w (PtrPost w base (2 * N) L Q) := by
  obtain ⟨ht, nb, sb, B, hin, hP⟩ := h
  refine (crash_any w _ d nb sb N L B vk vc cut hN hL hvk hvc hin).mono ?_
  rintro e w' ⟨o, nb', sb', ts, m, F, rfl, hin', hk, hb⟩
  exact ⟨o, rfl, now_of hin' (hQ B hP ts m F hk) (fun k hk => by omega), hb⟩

theorem now_read {w : World} {base top d N L : Nat} {P : Disk → Prop} (h : DiskNow w base top d N L P) (s : ByteArray) (hs : s.size ≤ maxLen) (hL : L ≤ 1152921504606) (b : List UInt8)
    (hQ : ∀ B, P B → B.down = false ∧ ∃ f, B.names s.data.toList = some f ∧ (B.file f).1 = b) :
    Calls Try.prog 15 #[.pointer (some ⟨d, 0, none⟩), .string s] w (GotPost w b) := by
  obtain ⟨ht, nb, sb, B, hin, hP⟩ := h
  obtain ⟨q1, f, q2, q3⟩ := hQ B hP
  refine (read_any w _ d nb sb N L B s hs hL hin).mono ?_
  rintro e w' ⟨v, hb, h | h | h⟩
  · rw [q1] at h; cases h.1
  · rw [q2] at h; cases h.2.1
  · obtain ⟨_, f', h1, h2, h3⟩ := h
    rw [q2] at h1
    cases h1
    rw [q3] at h3
    exact ⟨v, h2, h3, hb⟩

def NewPost (w : World) (room : Int) (e : Ending) (w' : World) : Prop :=
  ∃ d, e = .returned (.tuple #[.pointer (some ⟨d, 0, none⟩), .int .i64 0]) ∧ DiskNow w' w.heap.size w'.heap.size d 0 0 (fun A => A = fresh room) ∧ Below w.heap.size w w'

theorem now_new (w : World) (room : Int) (h0 : 0 ≤ room) (h1 : room ≤ 1048576) : Calls Try.prog 6 #[.int .i64 room] w (NewPost w room) := by
  refine (new_any w room h0 h1).mono ?_
  rintro e w' ⟨d, nb, sb, rfl, hin, hb⟩
  exact ⟨d, rfl, now_of hin rfl (fun k hk => hk), hb⟩

end Go.Proofs.Ytolpgajodhondaa
