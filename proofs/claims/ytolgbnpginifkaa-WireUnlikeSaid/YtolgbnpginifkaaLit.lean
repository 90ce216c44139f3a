/- Literals' bytes, at the block's number as the walk spells it. -/
import Derived.Test.YtolgbnpginifkaaSt
namespace Go.Proofs.Ytolgbnpginifkaa.st
open Go.RowKit own

theorem Has.lit (w : World) (l : List UInt8) (cs : Array Value) (T : TypeId) (n k : Nat) (h : cs = (l.map B).toArray) (hn : n = l.length) (hm : n ≤ 1000000) (hk : k = w.heap.size) : Has (w.alloc (.cells cs T)) (.slice (some ⟨k, 0, none⟩) n n) l := by
  subst hk
  exact Has.cells w l cs T n h hn (by unfold maxLen; omega)

theorem St.lit' {B0 : Nat} {W w : World} {L : List (Value × List UInt8)} (s : St B0 W w L) (l : List UInt8) (cs : Array Value) (T : TypeId) (n k : Nat) (h : cs = (l.map B).toArray) (hn : n = l.length) (hm : n ≤ 1000000) (hk : k = w.heap.size) :
    St B0 W (w.alloc (.cells cs T)) ((.slice (some ⟨k, 0, none⟩) n n, l) :: L) := by
  subst hk
  exact s.lit l cs T n h hn (by unfold maxLen; omega)

theorem Rd.byte' (w : World) (c : UInt8) (i : Int) (hi : i = (c.toNat : Int)) (T : TypeId) (k : Nat) (hk : k = w.heap.size) : Rd (w.alloc (.cells #[.int .u8 i] T)) (.slice (some ⟨k, 0, none⟩) 1 1) [c] := by
  subst hk
  exact Rd.byte w c i hi T

end Go.Proofs.Ytolgbnpginifkaa.st
