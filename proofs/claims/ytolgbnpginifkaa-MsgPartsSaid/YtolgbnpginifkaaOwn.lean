/- Slices that a call appends to, told by their cells: 'Own' (a slice value owns a row), 'Fr' (what an append leaves alone), and the law of append over them. No function of the program in sight. -/
import Derived.WalkKit
import Derived.ProofKit
import Derived.Below
import Derived.Deep.AppendSrc
import Derived.Deep.Upon
namespace Go.Proofs.Ytolgbnpginifkaa.own
open Go.RowKit

/-- v is a slice of n elements ('size' cells each), which hold the cells xs; the cells up to its capacity are there and may be written. -/
def Own (size : Nat) (w : World) (v : Value) (n : Nat) (xs : List Value) : Prop :=
  xs.length = n * size ∧ ((v = .slice none 0 0 ∧ n = 0) ∨
    ∃ g off cap, v = .slice (some ⟨g, off, none⟩) n cap ∧ n ≤ cap ∧ cap ≤ maxLen ∧ g < w.heap.size ∧
      (∀ j, j < cap * size → (w.cell? ⟨g, off + j, none⟩).isSome = true ∧ w.frozen? ⟨g, off + j, none⟩ = false) ∧
      ∀ j u, xs[j]? = some u → w.cell? ⟨g, off + j, none⟩ = some u)

/-- The cells behind a slice's length, up to its capacity. -/
def Spare (size : Nat) (v : Value) (a : Addr) : Prop :=
  ∃ g off n cap, v = .slice (some ⟨g, off, none⟩) n cap ∧ a.block = g ∧ off + n * size ≤ a.off ∧ a.off < off + cap * size

/-- Is there room behind a slice's length? -/
def Room (v : Value) : Prop := ∃ a n cap, v = .slice a n cap ∧ n < cap

/-- What an append (or many) that made v' of v leaves alone: all old cells but those behind v's length. -/
structure Fr (size : Nat) (w w' : World) (v v' : Value) : Prop where
  os : w'.os = w.os
  tape : w'.tape = w.tape
  output : w'.output = w.output
  size_le : w.heap.size ≤ w'.heap.size
  cells : ∀ a : Addr, a.block < w.heap.size → ¬ Spare size v a → w'.cell? a = w.cell? a
  frozen : ∀ a : Addr, a.block < w.heap.size → w'.frozen? a = w.frozen? a
  live : ∀ a : Addr, a.block < w.heap.size → (w'.cell? a).isSome = (w.cell? a).isSome
  block : ∀ k, k < w.heap.size → ¬ (v.ownBlock = some k ∧ Room v) → w'.heap[k]? = w.heap[k]?
  next : v' = v ∨ (∃ g off n n' cap, v = .slice (some ⟨g, off, none⟩) n cap ∧ v' = .slice (some ⟨g, off, none⟩) n' cap ∧ n ≤ n') ∨
    ∃ g off n cap, v' = .slice (some ⟨g, off, none⟩) n cap ∧ w.heap.size ≤ g

theorem Fr.refl (size : Nat) (w : World) (v : Value) : Fr size w w v v :=
  ⟨rfl, rfl, rfl, Nat.le_refl _, fun _ _ _ => rfl, fun _ _ => rfl, fun _ _ => rfl, fun _ _ _ => rfl, .inl rfl⟩

theorem Fr.trans {size : Nat} {w w1 w2 : World} {v v1 v2 : Value} (h : Fr size w w1 v v1) (k : Fr size w1 w2 v1 v2) : Fr size w w2 v v2 := by
  have hle := h.size_le
  have hkle := k.size_le
  refine ⟨k.os.trans h.os, k.tape.trans h.tape, k.output.trans h.output, Nat.le_trans hle hkle, ?_, ?_, ?_, ?_, ?_⟩
  · intro a ha hs
    refine (k.cells a (by omega) ?_).trans (h.cells a ha hs)
    rintro ⟨g, off, n, cap, hv, hb, hlo, hhi⟩
    rcases h.next with rfl | ⟨g', off', m, m', cap', e, e', hm⟩ | ⟨g', off', m, cap', e, hg⟩
    · exact hs ⟨g, off, n, cap, hv, hb, hlo, hhi⟩
    · rw [hv] at e'
      simp only [Value.slice.injEq, Option.some.injEq, Addr.mk.injEq, and_true] at e'
      obtain ⟨⟨rfl, rfl⟩, rfl, rfl⟩ := e'
      exact hs ⟨g, off, m, cap, e, hb, Nat.le_trans (Nat.add_le_add_left (Nat.mul_le_mul_right _ hm) _) hlo, hhi⟩
    · rw [hv] at e
      simp only [Value.slice.injEq, Option.some.injEq, Addr.mk.injEq, and_true] at e
      obtain ⟨⟨rfl, rfl⟩, rfl, rfl⟩ := e
      omega
  · intro a ha
    exact (k.frozen a (by omega)).trans (h.frozen a ha)
  · intro a ha
    exact (k.live a (by omega)).trans (h.live a ha)
  · intro b hb hn
    refine (k.block b (by omega) ?_).trans (h.block b hb hn)
    rintro ⟨ho, a, n, cap, hv, hlt⟩
    rcases h.next with rfl | ⟨g', off', m, m', cap', e, e', hm⟩ | ⟨g', off', m, cap', e, hg⟩
    · exact hn ⟨ho, a, n, cap, hv, hlt⟩
    · rw [e'] at hv ho
      simp only [Value.slice.injEq] at hv
      obtain ⟨rfl, rfl, rfl⟩ := hv
      exact hn ⟨by rw [e]; exact ho, _, _, _, e, by omega⟩
    · rw [e] at ho
      simp only [Value.ownBlock, Option.some.injEq] at ho
      omega
  · rcases k.next with rfl | ⟨g', off', m, m', cap', e, e', hm⟩ | ⟨g', off', m, cap', e, hg⟩
    · exact h.next
    · rcases h.next with rfl | ⟨g2, off2, m2, m2', cap2, e2, e2', hm2⟩ | ⟨g2, off2, m2, cap2, e2, hg2⟩
      · exact .inr (.inl ⟨g', off', m, m', cap', e, e', hm⟩)
      · rw [e] at e2'
        simp only [Value.slice.injEq, Option.some.injEq, Addr.mk.injEq, and_true] at e2'
        obtain ⟨⟨rfl, rfl⟩, rfl, rfl⟩ := e2'
        exact .inr (.inl ⟨_, _, _, _, _, e2, e', by omega⟩)
      · rw [e] at e2
        simp only [Value.slice.injEq, Option.some.injEq, Addr.mk.injEq, and_true] at e2
        obtain ⟨⟨rfl, rfl⟩, rfl, rfl⟩ := e2
        exact .inr (.inr ⟨_, _, _, _, e', hg2⟩)
    · exact .inr (.inr ⟨_, _, _, _, e, by omega⟩)

/-- A draw, a new block: nothing old turns. -/
theorem Fr.of_below {size : Nat} {w w' : World} (h : Below w.heap.size w w') (v : Value) : Fr size w w' v v :=
  ⟨h.os, h.tape, h.output, h.size, fun _ ha _ => h.cell ha, fun _ ha => h.frozen ha, fun _ ha => by rw [h.cell ha], fun k hk _ => h.block k hk, .inl rfl⟩

/-- Where v has no room, or is nil, all old blocks are as they were. -/
theorem Fr.below {size : Nat} {w w' : World} {v v' : Value} (h : Fr size w w' v v') (hv : ¬ Room v) : Below w.heap.size w w' :=
  ⟨h.os, h.tape, h.output, h.size_le, fun k hk => h.block k hk (fun hh => hv hh.2)⟩

/-- Where v is the call's own (its block from B on), what lies below B is as it was. -/
theorem Fr.below_of {size : Nat} {w w' : World} {v v' : Value} (h : Fr size w w' v v') {B : Nat} (hB : B ≤ w.heap.size) (hv : ∀ k, v.ownBlock = some k → B ≤ k) : Below B w w' :=
  ⟨h.os, h.tape, h.output, h.size_le, fun k hk => h.block k (by omega) (fun hh => by have := hv k hh.1; omega)⟩

theorem Fr.own_next {size : Nat} {w w' : World} {v v' : Value} (h : Fr size w w' v v') {B : Nat} (hB : B ≤ w.heap.size) (hv : ∀ k, v.ownBlock = some k → B ≤ k) : ∀ k, v'.ownBlock = some k → B ≤ k := by
  intro k hk
  rcases h.next with rfl | ⟨g, off, n, n', cap, e, e', _⟩ | ⟨g, off, n, cap, e, hg⟩
  · exact hv k hk
  · rw [e'] at hk
    exact hv k (by rw [e]; exact hk)
  · rw [e] at hk
    simp only [Value.ownBlock, Option.some.injEq] at hk
    omega

theorem Own.nil (size : Nat) (w : World) : Own size w (.slice none 0 0) 0 [] := ⟨by simp, .inl ⟨rfl, rfl⟩⟩

theorem Own.len {size : Nat} {w : World} {v : Value} {n : Nat} {xs : List Value} (h : Own size w v n xs) : ∃ a cap, v = .slice a n cap := by
  rcases h.2 with ⟨rfl, rfl⟩ | ⟨g, off, cap, rfl, _⟩
  · exact ⟨_, _, rfl⟩
  · exact ⟨_, _, rfl⟩

theorem Own.lt {size : Nat} {w : World} {v : Value} {n : Nat} {xs : List Value} (h : Own size w v n xs) : ∀ k, v.ownBlock = some k → k < w.heap.size := by
  intro k hk
  rcases h.2 with ⟨rfl, rfl⟩ | ⟨g, off, cap, rfl, _, _, hg, _⟩
  · simp [Value.ownBlock] at hk
  · simp only [Value.ownBlock, Option.some.injEq] at hk
    omega

/-- The old slice reads as it did, behind appends to it. -/
theorem Own.fr {size : Nat} {w w' : World} {v v' : Value} {n : Nat} {xs : List Value} (h : Own size w v n xs) (f : Fr size w w' v v') : Own size w' v n xs := by
  refine ⟨h.1, ?_⟩
  rcases h.2 with h2 | ⟨g, off, cap, rfl, hn, hm, hg, hc, hx⟩
  · exact .inl h2
  · have hle := f.size_le
    refine .inr ⟨g, off, cap, rfl, hn, hm, by omega, fun j hj => ⟨?_, ?_⟩, fun j u hu => ?_⟩
    · rw [f.live _ hg]; exact (hc j hj).1
    · rw [f.frozen _ hg]; exact (hc j hj).2
    · rw [f.cells _ hg ?_]
      · exact hx j u hu
      · rintro ⟨g', off', n', cap', e, _, hlo, _⟩
        simp only [Value.slice.injEq, Option.some.injEq, Addr.mk.injEq, and_true] at e
        obtain ⟨⟨rfl, rfl⟩, rfl, rfl⟩ := e
        have hj : j < xs.length := (List.getElem?_eq_some_iff.1 hu).1
        have h1 := h.1
        simp only at hlo
        omega

/-- Another slice reads as it did, where its block isn't v's, or v has no room. -/
theorem Own.other {size size' : Nat} {w w' : World} {u v v' : Value} {n : Nat} {xs : List Value} (h : Own size' w u n xs) (f : Fr size w w' v v') (hne : u.ownBlock ≠ v.ownBlock ∨ ¬ Room v) : Own size' w' u n xs := by
  refine ⟨h.1, ?_⟩
  rcases h.2 with h2 | ⟨g, off, cap, rfl, hn, hm, hg, hc, hx⟩
  · exact .inl h2
  · have hle := f.size_le
    have hb : w'.heap[g]? = w.heap[g]? := f.block g hg (fun hh => by
      rcases hne with hne | hne
      · exact hne (by rw [hh.1]; rfl)
      · exact hne hh.2)
    refine .inr ⟨g, off, cap, rfl, hn, hm, by omega, fun j hj => ⟨?_, ?_⟩, fun j u hu => ?_⟩
    · rw [World.cell?_of_block (w := w) hb]; exact (hc j hj).1
    · rw [World.frozen?_of_block (w := w) hb]; exact (hc j hj).2
    · rw [World.cell?_of_block (w := w) hb]; exact hx j u hu

theorem Own.below {size : Nat} {B : Nat} {w w' : World} {v : Value} {n : Nat} {xs : List Value} (h : Own size w v n xs) (f : Below B w w') (hv : ∀ k, v.ownBlock = some k → k < B) : Own size w' v n xs := by
  refine ⟨h.1, ?_⟩
  rcases h.2 with h2 | ⟨g, off, cap, rfl, hn, hm, hg, hc, hx⟩
  · exact .inl h2
  · have hle := f.size
    have hgB : g < B := hv g rfl
    refine .inr ⟨g, off, cap, rfl, hn, hm, by omega, fun j hj => ⟨?_, ?_⟩, fun j u hu => ?_⟩
    · rw [f.cell hgB]; exact (hc j hj).1
    · rw [f.frozen hgB]; exact (hc j hj).2
    · rw [f.cell hgB]; exact hx j u hu

theorem Own.alloc {size : Nat} {w : World} {v : Value} {n : Nat} {xs : List Value} (h : Own size w v n xs) (o : Obj) : Own size (w.alloc o) v n xs :=
  h.below ((Below.refl w.heap.size w).alloc (Nat.le_refl _) o) h.lt

theorem Own.drew {size : Nat} {w : World} {v : Value} {n : Nat} {xs : List Value} (h : Own size w v n xs) : Own size w.drew v n xs :=
  h.below ((Below.refl w.heap.size w).drew) h.lt

/-- A slice cut at its own length: the same elements, no room. -/
theorem Own.clip {size : Nat} {w : World} {a : Option Addr} {n cap : Nat} {xs : List Value} (h : Own size w (.slice a n cap) n xs) : Own size w (.slice a n n) n xs := by
  refine ⟨h.1, ?_⟩
  rcases h.2 with ⟨e, rfl⟩ | ⟨g, off, cap', e, hn, hm, hg, hc, hx⟩
  · simp only [Value.slice.injEq] at e
    obtain ⟨rfl, -, -⟩ := e
    exact .inl ⟨rfl, rfl⟩
  · simp only [Value.slice.injEq, true_and] at e
    obtain ⟨rfl, rfl⟩ := e
    exact .inr ⟨g, off, n, rfl, Nat.le_refl _, by omega, hg, fun j hj => hc j (Nat.lt_of_lt_of_le hj (Nat.mul_le_mul_right _ hn)), hx⟩

/-- A new row, whole. -/
theorem Own.made {w : World} {size : Nat} (cs : Array Value) (T : TypeId) (n cap : Nat) (hs : cs.size = cap * size) (hn : n ≤ cap) (hm : cap ≤ maxLen) :
    Own size (w.alloc (.cells cs T)) (.slice (some ⟨w.heap.size, 0, none⟩) n cap) n (cs.toList.take (n * size)) := by
  have hle : n * size ≤ cap * size := Nat.mul_le_mul_right _ hn
  refine ⟨by simp; omega, .inr ⟨w.heap.size, 0, cap, rfl, hn, hm, by simp, fun j hj => ⟨?_, World.frozen?_alloc_new _ _ _ _⟩, fun j u hu => ?_⟩⟩
  · rw [World.cell?_alloc_new]; simp; omega
  · rw [World.cell?_alloc_new]
    rw [List.getElem?_take] at hu
    split at hu
    · simpa using hu
    · cases hu

theorem Own.loads {P : Program} {size : Nat} {w : World} {v : Value} {n : Nat} {xs : List Value} (h : Own size w v n xs) {a : Option Addr} {cap : Nat} (hv : v = .slice a n cap) :
    (Builtin.firstCells size n (.slice a n cap)).run P w = .ok xs.toArray w := by
  subst hv
  rcases h.2 with ⟨e, rfl⟩ | ⟨g, off, cap', e, hn, hm, hg, hc, hx⟩
  · simp only [Value.slice.injEq] at e
    obtain ⟨rfl, -, rfl⟩ := e
    have : xs = [] := List.length_eq_zero_iff.1 (by rw [h.1]; simp)
    subst this
    exact run_firstCells_none w size 0 0 0
  · simp only [Value.slice.injEq, true_and] at e
    obtain ⟨rfl, rfl⟩ := e
    refine run_firstCells_some w size n _ n _ xs h.1 ?_
    intro j u hu
    rw [Addr.add_lit]
    exact hx j u hu

/-- THE LAW OF append, whichever arm it takes. -/
theorem run_append {P : Program} {w : World} (t tx ty e : TypeId) (i : TypeInfo) (z : Value) (size bytes : Nat) (ht : P.underlying t = some (.slice e)) (hi : P.info? e = some i) (hz : i.zero = some z)
    (hsize : i.size = size) (hby : i.bytes = bytes) (hzs : z.cells.size = size)
    {v : Value} {n : Nat} {xs : List Value} (h : Own size w v n xs) (x : Value) (m : Nat) (news : List Value) (hs : Src P size tx x m news w)
    (h63 : n + m ≤ maxLen) (hbytes : (n + m) * bytes ≤ 140737488355328) :
    ∃ v' w', (Builtin.append_ #[t, tx] ty #[v, x]).run P w = .ok v' w' ∧ Own size w' v' (n + m) (xs ++ news) ∧ Fr size w w' v v' ∧ (∀ k, v'.ownBlock = some k → v.ownBlock = some k ∨ w.heap.size ≤ k) := by
  subst hsize
  subst hby
  have hlen : (xs ++ news).length = (n + m) * i.size := by rw [List.length_append, h.1, hs.newsLen, Nat.add_mul]
  obtain ⟨a, cap, hv⟩ := h.len
  by_cases hroom : n + m ≤ cap
  · rcases h.2 with ⟨e0, rfl⟩ | ⟨g, off, cap', e0, hn, hm, hg, hc, hx⟩
    · -- nil, and nothing is appended
      rw [hv] at e0
      simp only [Value.slice.injEq] at e0
      obtain ⟨rfl, -, rfl⟩ := e0
      have hm0 : m = 0 := by omega
      subst hm0
      have hnews : news = [] := List.length_eq_zero_iff.1 (by rw [hs.newsLen]; simp)
      subst hnews
      have hxs : xs = [] := List.length_eq_zero_iff.1 (by rw [h.1]; simp)
      subst hxs
      subst hv
      refine ⟨.slice none 0 0, w, ?_, Own.nil _ w, Fr.refl _ _ _, fun k hk => by simp [Value.ownBlock] at hk⟩
      rcases hs.kind with ⟨e', hk⟩ | hk <;> simp [Builtin.append_, run_underlying ht, run_underlying hk, sizeOf, typeInfo, hi, hs.len, hs.cells]
    · rw [hv] at e0
      simp only [Value.slice.injEq, true_and] at e0
      obtain ⟨rfl, rfl⟩ := e0
      subst hv
      have hcs : (n + m) * i.size ≤ cap * i.size := Nat.mul_le_mul_right _ hroom
      rw [Nat.add_mul] at hcs
      have hr := run_append_room_src (P := P) w t tx ty e i ht hi g off n cap x m news hs hroom
        (fun j hj => by rw [hs.newsLen] at hj; rw [Nat.add_assoc]; exact (hc _ (by omega)).1) (fun j hj => by rw [hs.newsLen] at hj; rw [Nat.add_assoc]; exact (hc _ (by omega)).2)
      have hsome : ∀ a : Addr, ((w.setCells g (off + n * i.size) news).cell? a).isSome = (w.cell? a).isSome := by
        intro a
        by_cases hin : a.block = g ∧ a.spot = none ∧ off + n * i.size ≤ a.off ∧ a.off < off + n * i.size + news.length
        · obtain ⟨hb, hsp, hlo, hhi⟩ := hin
          obtain ⟨j, hj⟩ : ∃ j, a.off = off + n * i.size + j := ⟨a.off - (off + n * i.size), by omega⟩
          have ea : a = ⟨g, off + n * i.size + j, none⟩ := by cases a; simp_all
          have hjn : j < news.length := by omega
          rw [ea, World.cell?_setCells_in g news (off + n * i.size) w (fun k hk => by rw [hs.newsLen] at hk; rw [Nat.add_assoc]; exact (hc _ (by omega)).1) j hjn]
          rw [hs.newsLen] at hjn
          rw [Nat.add_assoc, (hc (n * i.size + j) (by omega)).1]
          rfl
        · rw [World.cell?_setCells_out]
          intro hb hsp
          by_cases hlt : a.off < off + n * i.size
          · exact .inl hlt
          · right
            apply Nat.le_of_not_lt
            intro hlt2
            exact hin ⟨hb, hsp, by omega, hlt2⟩
      have hsz : (w.setCells g (off + n * i.size) news).heap.size = w.heap.size := by
        have : ∀ (vs : List Value) (o : Nat) (w : World), (w.setCells g o vs).heap.size = w.heap.size := by
          intro vs
          induction vs with
          | nil => intro o w; rfl
          | cons y ys ih => intro o w; rw [World.setCells, ih]; simp [World.setCell]
        exact this _ _ _
      have htape : (w.setCells g (off + n * i.size) news).tape = w.tape := by
        have : ∀ (vs : List Value) (o : Nat) (w : World), (w.setCells g o vs).tape = w.tape := by
          intro vs
          induction vs with
          | nil => intro o w; rfl
          | cons y ys ih => intro o w; rw [World.setCells, ih]; rfl
        exact this _ _ _
      refine ⟨_, _, hr, ⟨hlen, .inr ⟨g, off, cap, rfl, hroom, hm, by rw [hsz]; exact hg, fun j hj => ⟨?_, ?_⟩, fun j u hu => ?_⟩⟩, ?_, fun k hk => .inl hk⟩
      · rw [hsome]; exact (hc j hj).1
      · rw [World.frozen?_setCells]; exact (hc j hj).2
      · rw [List.getElem?_append] at hu
        split at hu
        · rename_i hj
          rw [World.cell?_setCells_out _ _ _ _ _ (fun _ _ => .inl (by rw [h.1] at hj; show off + j < _; omega))]
          exact hx j u hu
        · rename_i hj
          have hjl : j - xs.length < news.length := (List.getElem?_eq_some_iff.1 hu).1
          have hxl := h.1
          have hnl := hs.newsLen
          have e1 : off + j = off + n * i.size + (j - xs.length) := by omega
          rw [e1, World.cell?_setCells_in g news (off + n * i.size) w (fun k hk => by rw [Nat.add_assoc]; exact (hc _ (by omega)).1) _ hjl]
          rw [List.getElem?_eq_getElem hjl] at hu
          exact hu
      · refine ⟨World.os_setCells _ _ _ _, htape, World.output_setCells _ _ _ _, by rw [hsz]; exact Nat.le_refl _, ?_, fun a _ => World.frozen?_setCells _ _ _ _ _, fun a _ => hsome a, ?_, .inr (.inl ⟨g, off, n, n + m, cap, rfl, rfl, by omega⟩)⟩
        · intro a ha hsp
          refine World.cell?_setCells_out _ _ _ _ _ (fun hb _ => ?_)
          by_cases hlt : a.off < off + n * i.size
          · exact .inl hlt
          · right
            apply Nat.le_of_not_lt
            intro hlt2
            have hnl := hs.newsLen
            exact hsp ⟨g, off, n, cap, rfl, hb, by omega, by omega⟩
        · intro k hk hn'
          by_cases hkg : k = g
          · subst hkg
            have hm0 : m = 0 := by
              apply Classical.byContradiction
              intro hne
              exact hn' ⟨rfl, _, _, _, rfl, by omega⟩
            subst hm0
            have hnews : news = [] := List.length_eq_zero_iff.1 (by rw [hs.newsLen]; simp)
            subst hnews
            rfl
          · exact World.heap_setCells_other w g _ news hk hkg
  · have hgt : cap < n + m := by omega
    have hsmall : n + m ≤ 9223372036854775807 := by simp only [maxLen] at h63; omega
    have hold : (Builtin.firstCells i.size n (.slice a n cap)).run P w.drew = .ok xs.toArray w.drew := h.drew.loads hv
    have hr := run_append_grow_src (P := P) w t tx ty e i z ht hi hz a n cap xs hold x m news hs hgt (by omega) (growslice_fits hgt hbytes)
    have hge := grownCap_ge w (n + m) cap e
    have hcm : grownCap w (n + m) cap e ≤ maxLen := grownCap_le_maxLen w (n + m) cap e h63
    rw [← hv] at hr
    have hb : Below w.heap.size w (w.drew.alloc (.cells ((xs ++ news).toArray ++ Builtin.zeroCells z.cells (grownCap w (n + m) cap e - (n + m))) e)) := ((Below.refl w.heap.size w).drew).alloc (Nat.le_refl _) _
    refine ⟨_, _, hr, ?_, ?_, fun k hk => ?_⟩
    · have hown := Own.made (w := w.drew) (size := i.size) ((xs ++ news).toArray ++ Builtin.zeroCells z.cells (grownCap w (n + m) cap e - (n + m))) e (n + m) (grownCap w (n + m) cap e) (by
        simp only [Array.size_append, List.size_toArray, size_zeroCells, hzs, hlen, ← Nat.add_mul]
        congr 1
        omega) hge hcm
      simp only [Array.toList_append] at hown
      rw [List.take_append_of_le_length (by rw [hlen]; exact Nat.le_refl _), List.take_of_length_le (by rw [hlen]; exact Nat.le_refl _)] at hown
      exact hown
    · refine { Fr.of_below hb v with next := .inr (.inr ⟨_, _, _, _, rfl, Nat.le_refl _⟩) }
    · simp only [Value.ownBlock, Option.some.injEq] at hk
      right; omega

/-- .. for the walk. -/
theorem wpList_append {P : Program} {w : World} {ops : Array Oper} {rest : List Oper} {o : Oper} {a : Act} {Q : Exit → Act → World → Prop} (hgd : o.guard = none) (s x : Operand) (t tx : TypeId)
    (ho : o.op = .call { callee := .builtin .append, args := #[s, x], argTypes := #[t, tx] })
    (e : TypeId) (i : TypeInfo) (z : Value) (size bytes : Nat) (ht : P.underlying t = some (.slice e)) (hi : P.info? e = some i) (hz : i.zero = some z) (hsize : i.size = size) (hby : i.bytes = bytes) (hzs : z.cells.size = size)
    {v : Value} {n : Nat} {xs : List Value} (hv : a.eval s = v) (h : Own size w v n xs)
    (xv : Value) (m : Nat) (news : List Value) (hx : a.eval x = xv) (hs : Src P size tx xv m news w) (h63 : n + m ≤ maxLen) (hbytes : (n + m) * bytes ≤ 140737488355328)
    (hK : ∀ v' w', Own size w' v' (n + m) (xs ++ news) → Fr size w w' v v' → (∀ k, v'.ownBlock = some k → v.ownBlock = some k ∨ w.heap.size ≤ k) → wpList P ops Q rest (a.put o.dst v') w') : wpList P ops Q (o :: rest) a w := by
  refine wpList_plain hgd fun K hK' => ?_
  obtain ⟨v', w', hrun, r, f, g⟩ := run_append (P := P) t tx o.type e i z size bytes ht hi hz hsize hby hzs h xv m news hs h63 hbytes
  unfold Oper.wp
  simp [execOp, ho, resolve, invoke, builtin, hv, hx, hrun, Result.andThen]
  exact hK' _ _ (hK v' w' r f g)

end Go.Proofs.Ytolgbnpginifkaa.own
