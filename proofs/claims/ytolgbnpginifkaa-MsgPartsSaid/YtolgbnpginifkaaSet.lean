/- A store into a slice of bytes that the call made. -/
import Derived.Test.YtolgbnpginifkaaLit
namespace Go.Proofs.Ytolgbnpginifkaa.st
open Go.RowKit own

theorem Has.at {w : World} {v : Value} {l : List UInt8} (h : Has w v l) {i : Nat} (hi : i < l.length) :
    ∃ g off cap u, v = .slice (some ⟨g, off, none⟩) l.length cap ∧ w.cell? ⟨g, off + i, none⟩ = some (.int .u8 u) ∧ w.frozen? ⟨g, off + i, none⟩ = false := by
  rcases h.2 with ⟨_, h0⟩ | ⟨g, off, cap, hv, hn, _, _, hc, hx⟩
  · omega
  · obtain ⟨c, hcc⟩ : ∃ c, l[i]? = some c := ⟨_, List.getElem?_eq_getElem hi⟩
    exact ⟨g, off, cap, (c.toNat : Int), hv, hx i (B c) (by rw [List.getElem?_map, hcc]; rfl), (hc i (by omega)).2⟩

theorem Has.set {w : World} {g off cap n : Nat} {l : List UInt8} (h : Has w (.slice (some ⟨g, off, none⟩) n cap) l) {i : Nat} (hi : i < l.length) (c : UInt8) :
    Has (w.setCell ⟨g, off + i, none⟩ (B c)) (.slice (some ⟨g, off, none⟩) n cap) (l.set i c) := by
  refine ⟨by simp, ?_⟩
  rcases h.2 with ⟨e, _⟩ | ⟨g', off', cap', e, hn, hm, hg, hc, hx⟩
  · cases e
  · simp only [Value.slice.injEq, Option.some.injEq, Addr.mk.injEq, and_true] at e
    obtain ⟨⟨rfl, rfl⟩, rfl, rfl⟩ := e
    have hsome : ∀ j, j < cap * 1 → ((w.setCell ⟨g, off + i, none⟩ (B c)).cell? ⟨g, off + j, none⟩).isSome = true := fun j hj => by
      by_cases hji : j = i
      · subst hji
        rw [World.cell?_setCell_same' w _ _ (hc j hj).1]
        rfl
      · rw [World.cell?_setCell_other w _ _ _ (by intro e; have e' := congrArg Addr.off e; simp only at e'; omega)]
        exact (hc j hj).1
    refine .inr ⟨g, off, cap, by rw [List.length_set], by rw [List.length_set]; exact hn, hm, by simp [World.setCell]; exact hg, fun j hj => ⟨hsome j hj, ?_⟩, fun j u hu => ?_⟩
    · rw [World.frozen?_setCell]
      exact (hc j hj).2
    · rw [List.getElem?_map, List.getElem?_set] at hu
      by_cases hji : i = j
      · subst hji
        rw [if_pos rfl, if_pos hi] at hu
        simp only [Option.map_some, Option.some.injEq] at hu
        subst hu
        rw [World.cell?_setCell_same' w _ _ (hc i (by omega)).1]
      · rw [if_neg hji] at hu
        rw [World.cell?_setCell_other w _ _ _ (by intro e; have e' := congrArg Addr.off e; simp only at e'; omega)]
        exact hx j u (by rw [List.getElem?_map]; exact hu)

theorem Has.setOther {w : World} {a : Addr} {u : Value} {v : Value} {l : List UInt8} (h : Has w v l) (hs : v.ownBlock ≠ some a.block) : Has (w.setCell a u) v l := by
  refine ⟨h.1, ?_⟩
  rcases h.2 with h2 | ⟨g, off, cap, rfl, hn, hm, hg, hc, hx⟩
  · exact .inl h2
  · have hb : (w.setCell a u).heap[g]? = w.heap[g]? := Below.heap_setCell w a u g (fun e => hs (by rw [← e]; rfl))
    refine .inr ⟨g, off, cap, rfl, hn, hm, by simp [World.setCell]; exact hg, fun j hj => ⟨?_, ?_⟩, fun j u hu => ?_⟩
    · rw [World.cell?_of_block (w := w) hb]; exact (hc j hj).1
    · rw [World.frozen?_of_block (w := w) hb]; exact (hc j hj).2
    · rw [World.cell?_of_block (w := w) hb]; exact hx j u hu

theorem Liv.setOther {B0 : Nat} {w : World} {a : Addr} {u : Value} : ∀ {L : List (Value × List UInt8)}, (∀ q ∈ L, q.1.ownBlock ≠ some a.block) → Liv B0 w L → Liv B0 (w.setCell a u) L
  | [], _, _ => trivial
  | q :: _, hs, h => ⟨h.1.setOther (hs q (by simp)), h.2.1, h.2.2.1, Liv.setOther (fun x hx => hs x (by simp [hx])) h.2.2.2⟩

theorem St.set {B0 : Nat} {W w : World} {L : List (Value × List UInt8)} {g off cap n : Nat} {l : List UInt8} (s : St B0 W w ((.slice (some ⟨g, off, none⟩) n cap, l) :: L)) {i : Nat} (hi : i < l.length) (c : UInt8) :
    St B0 W (w.setCell ⟨g, off + i, none⟩ (B c)) ((.slice (some ⟨g, off, none⟩) n cap, l.set i c) :: L) := by
  obtain ⟨h1, h2, h3, h4⟩ := s.liv
  have hg : B0 ≤ g := h2 g rfl
  refine ⟨s.bel.setCell hg _, by simp [World.setCell]; exact s.le, h1.set hi c, h2, h3, h4.setOther (fun q hq e => h3 q hq g rfl e)⟩

end Go.Proofs.Ytolgbnpginifkaa.st
