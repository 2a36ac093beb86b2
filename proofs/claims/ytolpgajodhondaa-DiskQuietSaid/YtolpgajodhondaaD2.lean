/- How many bytes all files have: at most as many names as there may be, each with at most as many bytes as a file may have. -/
import Derived.Test.YtolpgajodhondaaD1
namespace Go.Proofs.Ytolpgajodhondaa
open Go.RowKit Go.Maps Go.Sort Go.WideMaps Go.Proofs.YtolpgajodhondaaW.PrintWords

theorem inv9 : ∀ key kl, keyOf Try.prog 9 key = some kl → ∃ x, key = encStr x := fun key kl hk => by obtain ⟨x, hx, _⟩ := Maps.keyOf_str Try.underlying9 hk; exact ⟨x, hx⟩
theorem inv57 : ∀ v y, ptrElem v = some y → ∃ c, v = ptr c := fun v y hv => by obtain ⟨o, rfl, _⟩ := ptrElem_inv hv; exact ⟨o, rfl⟩

/-- What an entry that has come tells. -/
theorem MapAt.came {D : DataW Unit} {m : List UInt8 → Option Nat} (h1 : ∀ k, Maps.has D (.string k) = (m k).isSome) (h2 : ∀ k, D.atKey (.string k) .nil = enc (m k)) {x : List UInt8} {o : Option Nat} {y : DataW Unit × List MemPlace} (hv : ptrElem (ptr o) = some y) (hat : ∀ zd, D.atKey (.string x) zd = y.1) :
    ∃ f, o = some f ∧ m x = some f := by
  rw [ptrElem_ptr] at hv
  cases hv
  have e1 : m x = o := enc_inj ((h2 x).symm.trans (hat .nil))
  have e2 := h1 x
  rw [has_true_of_atKey hat, e1] at e2
  cases o with
  | none => cases e2
  | some f => exact ⟨f, rfl, e1⟩

/-! ### a sum over what is still to come -/
def sumLeft (f : DataW Unit → Nat) (left : Lit → Bool) : List (Lit × DataW Unit) → Nat
  | [] => 0
  | p :: r => (if left p.1 then f p.2 else 0) + sumLeft f left r

theorem sumLeft_none (f : DataW Unit → Nat) {left : Lit → Bool} (h : ∀ k, left k = false) : ∀ es, sumLeft f left es = 0
  | [] => rfl
  | p :: r => by simp [sumLeft, h, sumLeft_none f h r]

theorem sumLeft_congr (f : DataW Unit → Nat) {a b : Lit → Bool} : ∀ (es : List (Lit × DataW Unit)), (∀ p ∈ es, a p.1 = b p.1) → sumLeft f a es = sumLeft f b es
  | [], _ => rfl
  | p :: r, h => by rw [sumLeft, sumLeft, h p (by simp), sumLeft_congr f r (fun q hq => h q (by simp [hq]))]

theorem sumLeft_le (f : DataW Unit → Nat) (left : Lit → Bool) (L : Nat) : ∀ (es : List (Lit × DataW Unit)), (∀ p ∈ es, f p.2 ≤ L) → sumLeft f left es ≤ es.length * L
  | [], _ => by simp [sumLeft]
  | p :: r, h => by
    have h1 := h p (by simp)
    have h2 := sumLeft_le f left L r (fun q hq => h q (by simp [hq]))
    rw [sumLeft, List.length_cons, Nat.succ_mul]
    split <;> omega

theorem sumLeft_step (f : DataW Unit → Nat) {left : Lit → Bool} {kl : Lit} {y : DataW Unit} (hk : WideAt.IsKeyLit kl) (hlk : left kl = true) : ∀ (es : List (Lit × DataW Unit)), es.Pairwise (fun p q => p.1 ≠ q.1) → Maps.has (.map es) kl = true → (∀ zd, (DataW.map es).atKey kl zd = y) →
    sumLeft f left es = sumLeft f (fun z => left z && !z.sameKey kl) es + f y
  | [], _, hh, _ => by simp [Maps.has] at hh
  | p :: r, hd, hh, hat => by
    obtain ⟨hd1, hd2⟩ := List.pairwise_cons.1 hd
    cases hs : p.1.sameKey kl with
    | true =>
      have e1 : p.1 = kl := WideAt.sameKey_eq hs
      have e2 : p.2 = y := by
        have := hat .nil
        simpa [DataW.atKey, hs] using this
      have e3 : sumLeft f left r = sumLeft f (fun z => left z && !z.sameKey kl) r := sumLeft_congr f r fun q hq => by
        have : q.1.sameKey kl = false := Maps.sameKey_ne (fun e => hd1 q hq (e1.trans e.symm))
        simp [this]
      rw [sumLeft, sumLeft, e3, e1, hlk, WideAt.sameKey_self hk, e2]
      simp
      omega
    | false =>
      have ih := sumLeft_step f hk hlk r hd2 (by simpa [Maps.has_eq, hs] using hh) (fun zd => by simpa [DataW.atKey, hs] using hat zd)
      rw [sumLeft, sumLeft, ih, hs]
      simp
      omega

theorem atKey_mem : ∀ {es : List (Lit × DataW Unit)}, es.Pairwise (fun p q => p.1 ≠ q.1) → ∀ {p : Lit × DataW Unit}, p ∈ es → WideAt.IsKeyLit p.1 → ∀ z, (DataW.map es).atKey p.1 z = p.2
  | q :: r, hd, p, hp, hk, z => by
    obtain ⟨hd1, hd2⟩ := List.pairwise_cons.1 hd
    rcases List.mem_cons.1 hp with rfl | hp
    · simp [DataW.atKey, WideAt.sameKey_self hk]
    · have : q.1.sameKey p.1 = false := Maps.sameKey_ne (hd1 p hp)
      have ih := atKey_mem hd2 hp hk z
      simpa [DataW.atKey, this] using ih

def lenOf (A : Disk) (d : DataW Unit) : Nat := match d with
  | .lit (.int .i64 b) => (A.file b.toNat).1.length
  | _ => 0
def entries : DataW Unit → List (Lit × DataW Unit)
  | .map es => es
  | _ => []
/-- How many bytes all files have. -/
def usedOf (D : DataW Unit) (A : Disk) : Nat := sumLeft (lenOf A) (fun _ => true) (entries D)

theorem sumLeft_all (f : DataW Unit → Nat) : ∀ (es : List (Lit × DataW Unit)), (∀ p ∈ es, WideAt.IsKeyLit p.1) → sumLeft f (Maps.has (.map es)) es = sumLeft f (fun _ => true) es := fun es h =>
  sumLeft_congr f es fun p hp => by
    rw [Maps.has_eq, List.any_eq_true]
    exact ⟨p, hp, WideAt.sameKey_self (h p hp)⟩

/-- A DISK's NAMES AS DATA. -/
structure NamesAre (w : World) (nb N : Nat) (A : Disk) (D : DataW Unit) : Prop where
  own : w.ownsMap Try.prog 9 ptrElem nb N D
  has : ∀ k, Maps.has D (.string k) = (A.names k).isSome
  at_ : ∀ k, D.atKey (.string k) .nil = enc (A.names k)

theorem DiskIn.namesAre {w : World} {S : Nat → Prop} {d nb sb N L : Nat} {A : Disk} (h : DiskIn w S d nb sb N L A) : ∃ D, NamesAre w nb N A D := by
  obtain ⟨D, h1, h2, h3⟩ := h.names
  exact ⟨D, h1, h2, h3⟩

theorem usedOf_le {w : World} {S : Nat → Prop} {d nb sb N L : Nat} {A : Disk} (h : DiskIn w S d nb sb N L A) {D : DataW Unit} (hD : NamesAre w nb N A D) : usedOf D A ≤ N * L := by
  obtain ⟨es, rfl, hap, hkey⟩ := hD.own.entries law9
  have h1 := sumLeft_le (lenOf A) (fun _ => true) L es ?_
  · have h2 := hD.own.size_le
    exact Nat.le_trans h1 (Nat.mul_le_mul_right L h2)
  · intro p hp
    obtain ⟨es', e, hk⟩ := hD.own.keysOf
    cases e
    obtain ⟨v, hk'⟩ := hk p hp
    obtain ⟨x, _, hx, _⟩ := Maps.keyOf_str Try.underlying9 hk'
    have e1 := atKey_mem hap hp (hkey p hp) .nil
    rw [hx, hD.at_] at e1
    have e2 := hD.has x
    rw [Maps.has_eq, show es.any (fun q => q.1.sameKey (.string x)) = true from List.any_eq_true.2 ⟨p, hp, by rw [hx]; exact WideAt.sameKey_self (isKey x)⟩] at e2
    cases hm : A.names x with
    | none => rw [hm] at e2; cases e2
    | some f =>
      rw [hm] at e1
      rw [← e1]
      show (A.file f).1.length ≤ L
      exact (h.files f ⟨x, .inl hm⟩).2.choose_spec.2.2.2

set_option maxHeartbeats 1000000 in
set_option maxRecDepth 100000 in
theorem used_is (w : World) (S : Nat → Prop) (d nb sb N L : Nat) (A : Disk) (D : DataW Unit) (hNL : N * L ≤ 4611686018427387903) (h : DiskIn w S d nb sb N L A) (hD : NamesAre w nb N A D) :
    Calls Try.prog 22 #[.pointer (some ⟨d, 0, none⟩)] w fun e w' => e = .returned (.int .i64 (usedOf D A)) ∧ Below w.heap.size w w' := by
  have H := Aside0.mk h
  have c1 : w.cell? ⟨d, 1, none⟩ = some (.map (some nb)) := h.cells.1 1
  have hU := usedOf_le h hD
  obtain ⟨hown, hh, ha⟩ := hD
  obtain ⟨es, rfl, hap, hkey⟩ := hown.entries law9
  have HH := Aside0.mk hh
  have HA := Aside0.mk ha
  have HP := Aside0.mk hap
  have hst := Aside0.mk (sumLeft_all (lenOf A) es hkey)
  have hus := Aside0.mk (show usedOf (.map es) A = sumLeft (lenOf A) (fun _ => true) es from rfl)
  generalize usedOf (.map es) A = U at *
  clear h hh ha hap hkey
  go_enter Try.func22, Try.ntmps22
  go_wp2_with (first
    | (at_range; refine wpList_range_own _ rfl _ 54 rfl 9 57 law9 Try.underlying54 _ nb N _ rfl hown ?_; intro w0 hrg0 hg0 hs0)
    | go_in)
  go_frame
  go_loopw [3] (fun v wr => ∃ (left : Lit → Bool) (cnt r : Nat), v = .int .i64 r ∧ Aside0 (wr.ranges Try.prog 9 ptrElem nb w.heap.size N (.map es) left cnt) ∧ Aside0 (r + sumLeft (lenOf A) left es = U) ∧ Aside0 (Below w.heap.size w wr))
    (fun _ wr => wr.rangeLeft nb w.heap.size)
  case atStart => exact ⟨_, _, 0, rfl, ⟨hrg0⟩, ⟨by rw [hus.out, ← hst.out]; omega⟩, ⟨(Below.refl _ _).grown hg0 (Nat.le_refl _) (fun j hj => by cases hj)⟩⟩
  case round =>
    clear hs0 hg0 hrg0
    obtain ⟨left, cnt, r, rfl, hrg, hr, hb⟩ := hrel
    go_wp2_with (first
      | (at_next; refine wpList_next_ranges _ rfl _ rfl 9 law9 ptrElem encStr ptr inv9 inv57 nb w.heap.size N _ _ _ rfl hrg.out ?_ ?_)
      | go_in)
    · intro hc0 hl0
      have e : r = U := by have := hr.out; rw [sumLeft_none _ hl0] at this; omega
      have HE := Aside0.mk e
      clear e hc0 hl0
      go_wp2
      go_ret
      exact ⟨by rw [HE.out]; rfl, hb.out⟩
    · intro x o kl yd yp w2 cnt2 hkey hlk hv hat hrg2 hlt hg2 hs2 hen
      obtain ⟨x', ex, rfl, _⟩ := Maps.keyOf_str Try.underlying9 hkey
      obtain rfl : x = x' := encStr_inj ex
      obtain ⟨f, rfl, hf⟩ := MapAt.came HH.out HA.out hv hat
      have hstep := sumLeft_step (lenOf A) (isKey x) hlk es HP.out (by rw [HH.out, hf]; rfl) hat
      have hyd : lenOf A yd = (A.file f).1.length := by
        rw [ptrElem_ptr] at hv
        cases hv
        rfl
      clear hs2
      have hb2 : Below w.heap.size w w2 := hb.out.grown hg2 hb.out.size (fun j hj => by cases hj; exact Nat.le_refl _)
      have hF := H.out.files f ⟨x, .inl hf⟩
      obtain ⟨_, v, hv2, hby, _, hL⟩ := hF
      obtain ⟨A1, c, rfl, _, _⟩ := hby.len
      clear hby
      have hc0 : w2.cell? ⟨f, 0, none⟩ = some (.slice A1 (A.file f).1.length c) := (hb2.cell (blk_lt hv2)).trans (blk_cell hv2 0)
      have HRG := Aside0.mk hrg2
      have HB := Aside0.mk hb2
      have HL := Aside0.mk hlt
      have hsum : r + (A.file f).1.length ≤ 4611686018427387903 := by
        have := hr.out
        simp only [hyd] at hstep
        omega
      have HS := Aside0.mk hstep
      have HY := Aside0.mk hyd
      clear hrg2 hb2 hv hat hv2 hg2 hlt hstep hyd
      rw [ptr_some] at hen
      simp only [ptr_some]
      go_wp2
      go_roundw
      case rel =>
        refine ⟨_, cnt2, r + (A.file f).1.length, by go_num, HRG, ⟨?_⟩, HB⟩
        have h1 := hr.out
        have h2 := HS.out
        simp only [HY.out] at h2
        omega
      case measure => rw [HRG.out.left_eq, hrg.out.left_eq]; exact HL.out

end Go.Proofs.Ytolpgajodhondaa
