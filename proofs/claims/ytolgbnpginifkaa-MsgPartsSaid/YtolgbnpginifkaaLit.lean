/- Literals' bytes, at the block's number as the walk spells it. -/
import Derived.Test.YtolgbnpginifkaaSt
import Derived.OpenShut
namespace Go.Proofs.Ytolgbnpginifkaa.st
open Go.RowKit own

theorem Has.lit (w : World) (l : List UInt8) (cs : Array Value) (T : TypeId) (n k : Nat) (h : cs = (l.map B).toArray) (hn : n = l.length) (hm : n ≤ 1000000) (hk : k = w.heap.size) : Has (w.alloc (.cells cs T)) (.slice (some ⟨k, 0, none⟩) n n) l := by
  subst hk
  exact Has.cells w l cs T n h hn (by unfold maxLen; omega)

theorem St.lit' {B0 : Nat} {W w : World} {L : List (Value × List UInt8)} (s : St B0 W w L) (l : List UInt8) (cs : Array Value) (T : TypeId) (n k : Nat) (h : cs = (l.map B).toArray) (hn : n = l.length) (hm : n ≤ 1000000) (hk : k = w.heap.size) :
    St B0 W (w.alloc (.cells cs T)) ((.slice (some ⟨k, 0, none⟩) n n, l) :: L) := by
  subst hk
  exact s.lit l cs T n h hn (by unfold maxLen; omega)

theorem Rd.byte' (w : World) (c : UInt8) (i : Int) (hi : i = (c.toNat : Int)) (T : TypeId) (k : Nat) (hk : k = w.heap.size) : Rd (w.alloc (.cells #[.int .u8 i] T)) (.slice (some ⟨k, 0, none⟩) 1 1) [c] := by
  subst hk
  exact Rd.byte w c i hi T

/-- A slice of bytes that came in. -/
theorem Rd.ofRow {w : World} {a : Option Addr} {len cap : Nat} {z : List Int}
    (h : (a = none ∧ len = 0 ∧ cap = 0 ∧ z = []) ∨ ∃ x, a = some x ∧ len ≤ cap ∧ cap ≤ maxLen ∧ z.length = cap ∧ (∀ i, i < z.length → w.cell? (x.add i) = some (.int .u8 (z.getD i 0))) ∧ ∀ n ∈ z, (Lit.int .u8 n).wf = true) :
    ∃ l : List UInt8, l.length = len ∧ Rd w (.slice a len cap) l := by
  rcases h with ⟨rfl, rfl, rfl, rfl⟩ | ⟨x, rfl, h1, h2, h3, hc, hwf⟩
  · exact ⟨[], rfl, none, 0, rfl, Nat.le_refl _, by unfold maxLen; omega, fun i c hi => by simp at hi⟩
  · have hl : ((z.take len).map fun n => UInt8.ofNat n.toNat).length = len := by rw [List.length_map, List.length_take]; omega
    refine ⟨(z.take len).map fun n => UInt8.ofNat n.toNat, hl, some x, cap, by rw [hl], by rw [hl]; exact h1, h2, fun i c hi => ⟨x, rfl, ?_⟩⟩
    have hil : i < len := by rw [← hl]; exact (List.getElem?_eq_some_iff.1 hi).1
    rw [hc i (by omega)]
    rw [List.getElem?_map, List.getElem?_take, if_pos hil, List.getElem?_eq_getElem (by omega)] at hi
    simp only [Option.map_some, Option.some.injEq] at hi
    subst hi
    have hb := bounds_u8 (hwf z[i] (List.getElem_mem _))
    have e : z.getD i 0 = z[i] := by simp [List.getD, List.getElem?_eq_getElem (show i < z.length by omega)]
    rw [e]
    unfold B
    have e2 : (UInt8.ofNat (z[i]).toNat).toNat = (z[i]).toNat := by simp [UInt8.toNat_ofNat']; omega
    rw [e2, Int.toNat_of_nonneg hb.1]

theorem strEta (s : ByteArray) : (⟨s.data.toList.toArray⟩ : ByteArray) = s := rfl

/-- A slice cut from its beginning on. -/
theorem Rd.first {w : World} {a : Option Addr} {n cap : Nat} {l : List UInt8} (h : Rd w (.slice a n cap) l) (k : Nat) (hk : k ≤ l.length) : Rd w (.slice a k cap) (l.take k) := by
  obtain ⟨a', cap', e, h1, h2, hc⟩ := h
  simp only [Value.slice.injEq] at e
  obtain ⟨rfl, rfl, rfl⟩ := e
  have hl : (l.take k).length = k := by rw [List.length_take]; omega
  refine ⟨_, _, by rw [hl], by rw [hl]; omega, h2, fun i c hi => hc i c ?_⟩
  rw [List.getElem?_take] at hi
  split at hi
  · exact hi
  · cases hi

end Go.Proofs.Ytolgbnpginifkaa.st
