/- A block of the call's own, known whole by its cells. No function of the program in sight. -/
import Derived.Test.YtolgbnpginifkaaLit
import Derived.OneCell
namespace Go.Proofs.Ytolgbnpginifkaa.blk
open Go.RowKit

/-- Block b holds the cells cs, and may be written. -/
def Blk (w : World) (b : Nat) (cs : List Value) : Prop := ∃ T, w.heap[b]? = some (.cells cs.toArray T (0, 0))

theorem Blk.lt {w : World} {b : Nat} {cs : List Value} (h : Blk w b cs) : b < w.heap.size := by
  obtain ⟨T, h⟩ := h
  exact lt_of_block h

theorem Blk.cell {w : World} {b : Nat} {cs : List Value} (h : Blk w b cs) {j : Nat} {u : Value} (hj : cs[j]? = some u) : w.cell? ⟨b, j, none⟩ = some u := by
  obtain ⟨T, h⟩ := h
  simp [World.cell?, h, hj]

theorem Blk.free {w : World} {b : Nat} {cs : List Value} (h : Blk w b cs) (j : Nat) : w.frozen? ⟨b, j, none⟩ = false := by
  obtain ⟨T, h⟩ := h
  simp [World.frozen?, h]

theorem Blk.of_heap {w w' : World} {b : Nat} {cs : List Value} (h : Blk w b cs) (e : w'.heap[b]? = w.heap[b]?) : Blk w' b cs := by
  obtain ⟨T, h⟩ := h
  exact ⟨T, by rw [e]; exact h⟩

theorem Blk.set {w : World} {b : Nat} {cs : List Value} (h : Blk w b cs) (j : Nat) (v : Value) : Blk (w.setCell ⟨b, j, none⟩ v) b (cs.set j v) := by
  have hlt := h.lt
  obtain ⟨T, h⟩ := h
  refine ⟨T, ?_⟩
  have h' : w.heap[b] = .cells cs.toArray T (0, 0) := by simpa [Array.getElem?_eq_getElem hlt] using h
  show (w.heap.modify b _)[b]? = _
  rw [Array.getElem?_eq_getElem (by simpa using hlt), Array.getElem_modify_self, h']
  simp

theorem Blk.other {w : World} {b : Nat} {cs : List Value} (h : Blk w b cs) {a : Addr} (v : Value) (hne : b ≠ a.block) : Blk (w.setCell a v) b cs := h.of_heap (Below.heap_setCell w a v b hne)

theorem Blk.below {w w' : World} {b n : Nat} {cs : List Value} (h : Blk w b cs) (hb : Below n w w') (hn : b < n) : Blk w' b cs := h.of_heap (hb.block b hn)

theorem Blk.alloc {w : World} {b : Nat} {cs : List Value} (h : Blk w b cs) (o : Obj) : Blk (w.alloc o) b cs := h.of_heap (Below.heap_alloc w o b h.lt)
theorem Blk.drew {w : World} {b : Nat} {cs : List Value} (h : Blk w b cs) : Blk w.drew b cs := h
theorem Blk.new (w : World) (cs : List Value) (T : TypeId) : Blk (w.alloc (.cells cs.toArray T)) w.heap.size cs := ⟨T, heap_alloc_new w _⟩

end Go.Proofs.Ytolgbnpginifkaa.blk
