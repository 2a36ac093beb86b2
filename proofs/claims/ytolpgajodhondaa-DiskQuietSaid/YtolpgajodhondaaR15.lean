/- A step on both disks, whatever its kind. -/
import Derived.Test.YtolpgajodhondaaR13
import Derived.Test.YtolpgajodhondaaR14
namespace Go.Proofs.Ytolpgajodhondaa
open Go.RowKit Go.Maps Go.Sort Go.WideMaps Go.Proofs.YtolpgajodhondaaW.PrintWords

theorem do_any (w : World) (Sd Sq : Nat → Prop) (d q N L : Nat) (A : Disk) (k : Int) (a b : ByteArray) (n : Int) (A1 A2 : Option Addr) (n1 c1 n2 c2 : Nat) (ha : a.size ≤ maxLen) (hb' : b.size ≤ 1000000) (hN : N ≤ 1000000) (hL : L ≤ 1000000) (h : Two w Sd Sq d q N L A) :
    Calls Try.prog 13 #[.pointer (some ⟨d, 0, none⟩), .pointer (some ⟨q, 0, none⟩), .agg #[.int .i64 k, .string a, .string b, .int .i64 n, .slice A1 n1 c1, .slice A2 n2 c2]] w (DoPost w Sd Sq d q N L A k a b n) := by
  by_cases hk : k < 0 ∨ 5 < k
  · exact do_x w Sd Sq d q N L A k a b n A1 A2 n1 c1 n2 c2 hk h
  · have hm : (1000000 : Nat) ≤ maxLen := by decide
    have : k = 0 ∨ k = 1 ∨ k = 2 ∨ k = 3 ∨ k = 4 ∨ k = 5 := by omega
    rcases this with rfl | rfl | rfl | rfl | rfl | rfl
    · exact do_0 w Sd Sq d q N L A a b n A1 A2 n1 c1 n2 c2 ha hb' hN hL h
    · exact do_1 w Sd Sq d q N L A a b n A1 A2 n1 c1 n2 c2 ha h
    · exact do_2 w Sd Sq d q N L A a b n A1 A2 n1 c1 n2 c2 ha (Nat.le_trans hb' hm) hN h
    · exact do_3 w Sd Sq d q N L A a b n A1 A2 n1 c1 n2 c2 ha hN h
    · exact do_4 w Sd Sq d q N L A a b n _ _ A1 A2 n1 c1 n2 c2 rfl rfl hN h
    · exact do_5 w Sd Sq d q N L A a b n A1 A2 n1 c1 n2 c2 h

end Go.Proofs.Ytolpgajodhondaa
