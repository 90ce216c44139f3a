/- What stands for data in memory: cells that may lead on to slices; it stays where the blocks that it leads to stay. No function of the program in sight. -/
import Derived.Test.YtolgbnpginifkaaBlk
namespace Go.Proofs.Ytolgbnpginifkaa.rep
open Go.RowKit own blk

/-- The blocks of the set S are as they were. -/
def Kept (S : Nat → Prop) (w w' : World) : Prop := ∀ b, S b → b < w.heap.size → w'.heap[b]? = w.heap[b]?

theorem Kept.refl (S : Nat → Prop) (w : World) : Kept S w w := fun _ _ _ => rfl
theorem Kept.ofBelow {S : Nat → Prop} {w w' : World} (h : Below w.heap.size w w') : Kept S w w' := fun b _ hb => h.block b hb
theorem Kept.trans {S : Nat → Prop} {w w' w'' : World} (h : Kept S w w') (hle : w.heap.size ≤ w'.heap.size) (k : Kept S w' w'') : Kept S w w'' := fun b hS hb => (k b hS (by omega)).trans (h b hS hb)
theorem Kept.mono {S S' : Nat → Prop} {w w' : World} (h : Kept S w w') (hs : ∀ b, b < w.heap.size → S' b → S b) : Kept S' w w' := fun b hS hb => h b (hs b hb hS) hb
theorem Kept.drew {S : Nat → Prop} {w w' : World} (h : Kept S w w') : Kept S w w'.drew := h
theorem Kept.setCell {S : Nat → Prop} {w w' : World} (h : Kept S w w') (a : Addr) (v : Value) (hn : ¬ S a.block) : Kept S w (w'.setCell a v) := fun b hS hb =>
  (Below.heap_setCell w' a v b (fun e => hn (e ▸ hS))).trans (h b hS hb)

theorem cell_of {w w' : World} {g k : Nat} {u : Value} (h : w'.heap[g]? = w.heap[g]?) (hc : w.cell? ⟨g, k, none⟩ = some u) : w'.cell? ⟨g, k, none⟩ = some u := by
  rw [World.cell?_of_block (w := w) h]; exact hc

/-- How data stands in cells. -/
structure Rep (α : Type) where
  size : Nat
  rep : World → (Nat → Prop) → α → List Value → Prop
  len : ∀ {w : World} {S : Nat → Prop} {x : α} {cs : List Value}, rep w S x cs → cs.length = size
  one : ∀ {w : World} {S : Nat → Prop} {x : α} {cs : List Value}, rep w S x cs → ∀ u ∈ cs, u.oneCell' = true
  keep : ∀ {w w' : World} {S : Nat → Prop} {x : α} {cs : List Value}, Kept S w w' → rep w S x cs → rep w' S x cs
  mono : ∀ {w : World} {S S' : Nat → Prop} {x : α} {cs : List Value}, (∀ b, S b → b < w.heap.size → S' b) → rep w S x cs → rep w S' x cs

def flat {α : Type} (f : α → List Value) (n : Nat) (h : ∀ x, (f x).length = n) (h1 : ∀ x, ∀ u ∈ f x, u.oneCell' = true) : Rep α where
  size := n
  rep := fun _ _ x cs => cs = f x
  len := fun e => by subst e; exact h _
  one := fun e => by subst e; exact h1 _
  keep := fun _ e => e
  mono := fun _ e => e

/-- A slice reads as these cells; it lies in a block of S. -/
def RdS (size : Nat) (w : World) (S : Nat → Prop) (v : Value) (n : Nat) (xs : List Value) : Prop :=
  xs.length = n * size ∧ ∃ a cap, v = .slice a n cap ∧ n ≤ cap ∧ cap ≤ maxLen ∧ ∀ j u, xs[j]? = some u → ∃ g off, a = some ⟨g, off, none⟩ ∧ S g ∧ g < w.heap.size ∧ w.cell? ⟨g, off + j, none⟩ = some u

theorem RdS.keep {size : Nat} {w w' : World} {S : Nat → Prop} {v : Value} {n : Nat} {xs : List Value} (k : Kept S w w') (h : RdS size w S v n xs) : RdS size w' S v n xs := by
  obtain ⟨h1, a, cap, rfl, h2, h3, hc⟩ := h
  refine ⟨h1, a, cap, rfl, h2, h3, fun j u hu => ?_⟩
  obtain ⟨g, off, rfl, hS, hg, hcell⟩ := hc j u hu
  have hb := k g hS hg
  refine ⟨g, off, rfl, hS, ?_, cell_of hb hcell⟩
  rw [Array.getElem?_eq_getElem hg] at hb
  exact (Array.getElem?_eq_some_iff.1 hb).1

theorem RdS.mono {size : Nat} {w : World} {S S' : Nat → Prop} {v : Value} {n : Nat} {xs : List Value} (k : ∀ b, S b → b < w.heap.size → S' b) (h : RdS size w S v n xs) : RdS size w S' v n xs := by
  obtain ⟨h1, a, cap, rfl, h2, h3, hc⟩ := h
  refine ⟨h1, a, cap, rfl, h2, h3, fun j u hu => ?_⟩
  obtain ⟨g, off, rfl, hS, hg, hcell⟩ := hc j u hu
  exact ⟨g, off, rfl, k g hS hg, hg, hcell⟩

theorem RdS.nil (size : Nat) (w : World) (S : Nat → Prop) : RdS size w S (.slice none 0 0) 0 [] := ⟨by simp, none, 0, rfl, Nat.le_refl _, by simp [maxLen], fun j u hu => by simp at hu⟩

theorem RdS.ofOwn {size : Nat} {w : World} {S : Nat → Prop} {v : Value} {n : Nat} {xs : List Value} (h : Own size w v n xs) (hS : ∀ b, v.ownBlock = some b → S b) : RdS size w S v n xs := by
  refine ⟨h.1, ?_⟩
  rcases h.2 with ⟨rfl, rfl⟩ | ⟨g, off, cap, rfl, h2, h3, hg, _, hx⟩
  · have : xs = [] := List.length_eq_zero_iff.1 (by rw [h.1]; simp)
    subst this
    exact ⟨none, 0, rfl, Nat.le_refl _, by simp [maxLen], fun j u hu => by simp at hu⟩
  · exact ⟨_, cap, rfl, h2, h3, fun j u hu => ⟨g, off, rfl, hS g rfl, hg, hx j u hu⟩⟩

/-- Rows of cells stand for data, one by one. -/
def Rows {α : Type} (R : Rep α) (w : World) (S : Nat → Prop) : List α → List (List Value) → Prop
  | [], [] => True
  | x :: xs, r :: rs => R.rep w S x r ∧ Rows R w S xs rs
  | _, _ => False

section
variable {α : Type} {R : Rep α} {w w' : World} {S S' : Nat → Prop}

theorem Rows.imp (f : ∀ x cs, R.rep w S x cs → R.rep w' S' x cs) : ∀ {xs : List α} {rs : List (List Value)}, Rows R w S xs rs → Rows R w' S' xs rs
  | [], [], _ => trivial
  | _ :: _, _ :: _, h => ⟨f _ _ h.1, Rows.imp f h.2⟩
theorem Rows.keep (k : Kept S w w') {xs : List α} {rs : List (List Value)} (h : Rows R w S xs rs) : Rows R w' S xs rs := Rows.imp (fun _ _ => R.keep k) h
theorem Rows.mono (k : ∀ b, S b → b < w.heap.size → S' b) {xs : List α} {rs : List (List Value)} (h : Rows R w S xs rs) : Rows R w S' xs rs := Rows.imp (fun _ _ => R.mono k) h
theorem Rows.snoc {x : α} {cs : List Value} (hx : R.rep w S x cs) : ∀ {xs : List α} {rs : List (List Value)}, Rows R w S xs rs → Rows R w S (xs ++ [x]) (rs ++ [cs])
  | [], [], _ => ⟨hx, trivial⟩
  | _ :: _, _ :: _, h => ⟨h.1, Rows.snoc hx h.2⟩
theorem Rows.len : ∀ {xs : List α} {rs : List (List Value)}, Rows R w S xs rs → rs.flatten.length = xs.length * R.size
  | [], [], _ => by simp
  | _ :: xs, _ :: _, h => by
    rw [List.flatten_cons, List.length_append, Rows.len h.2, R.len h.1, List.length_cons, Nat.succ_mul]
    omega
theorem Rows.one : ∀ {xs : List α} {rs : List (List Value)}, Rows R w S xs rs → ∀ u ∈ rs.flatten, u.oneCell' = true
  | [], [], _, u, hu => by simp at hu
  | _ :: _, _ :: _, h, u, hu => by
    rw [List.flatten_cons, List.mem_append] at hu
    rcases hu with hu | hu
    · exact R.one h.1 u hu
    · exact Rows.one h.2 u hu

/-- An element's cells among all. -/
theorem Rows.at : ∀ {xs : List α} {rs : List (List Value)} {i : Nat} {x : α}, Rows R w S xs rs → xs[i]? = some x → ∃ cs, R.rep w S x cs ∧ ∀ j u, cs[j]? = some u → rs.flatten[i * R.size + j]? = some u
  | _ :: _, r :: rs, 0, x, h, e => by
    simp only [List.getElem?_cons_zero, Option.some.injEq] at e
    subst e
    refine ⟨r, h.1, fun j u hu => ?_⟩
    rw [Nat.zero_mul, Nat.zero_add, List.flatten_cons, List.getElem?_append_left (List.getElem?_eq_some_iff.1 hu).1]
    exact hu
  | _ :: xs, r :: rs, i + 1, x, h, e => by
    simp only [List.getElem?_cons_succ] at e
    obtain ⟨cs, h1, h2⟩ := Rows.at h.2 e
    refine ⟨cs, h1, fun j u hu => ?_⟩
    have hl := R.len h.1
    rw [List.flatten_cons, List.getElem?_append_right (by rw [hl, Nat.succ_mul]; omega), show (i + 1) * R.size + j - r.length = i * R.size + j by rw [hl, Nat.succ_mul]; omega]
    exact h2 j u hu
end

/-- A list, in a slice: one cell. -/
def list {α : Type} (R : Rep α) : Rep (List α) where
  size := 1
  rep := fun w S xs cs => ∃ v rows, cs = [v] ∧ Rows R w S xs rows ∧ RdS R.size w S v xs.length rows.flatten
  len := fun ⟨_, _, e, _⟩ => by subst e; rfl
  one := fun ⟨v, _, e, _, _, a, cap, hv, _⟩ u hu => by
    subst e
    simp only [List.mem_singleton] at hu
    subst hu
    subst hv
    rfl
  keep := fun k ⟨v, rows, e, h, r⟩ => ⟨v, rows, e, h.keep k, r.keep k⟩
  mono := fun k ⟨v, rows, e, h, r⟩ => ⟨v, rows, e, h.mono k, r.mono k⟩

/-- What a call has gathered so far, in a slice of its own. -/
def Acc {α : Type} (R : Rep α) (w wr : World) (v : Value) (xs : List α) : Prop :=
  Below w.heap.size w wr ∧ (∀ b, v.ownBlock = some b → w.heap.size ≤ b) ∧ ∃ rows, Rows R wr (fun b => w.heap.size ≤ b ∧ v.ownBlock ≠ some b) xs rows ∧ Own R.size wr v xs.length rows.flatten

section
variable {α : Type} {R : Rep α} {w wr w' : World} {v v' : Value} {xs : List α}

theorem Acc.start (R : Rep α) (w : World) : Acc R w w (.slice none 0 0) [] := ⟨Below.refl _ _, fun b h => by simp [Value.ownBlock] at h, [], trivial, Own.nil _ _⟩

theorem Acc.quiet (h : Acc R w wr v xs) (hb : Below wr.heap.size wr w') : Acc R w w' v xs := by
  obtain ⟨h1, h2, rows, h3, h4⟩ := h
  exact ⟨h1.trans (hb.mono h1.size), h2, rows, h3.keep (Kept.ofBelow hb), h4.below hb h4.lt⟩

theorem Acc.push {x : α} {cs : List Value} {rows : List (List Value)} {B1 : Nat} (hb : Below w.heap.size w wr) (hv : ∀ b, v.ownBlock = some b → w.heap.size ≤ b) (hr : Rows R wr (fun b => w.heap.size ≤ b ∧ v.ownBlock ≠ some b) xs rows)
    (hx : R.rep wr (fun b => B1 ≤ b) x cs) (hB : w.heap.size ≤ B1) (hvB : ∀ b, v.ownBlock = some b → b < B1)
    {news : List Value} (hn : news = cs) (ho : Own R.size w' v' (xs.length + 1) (rows.flatten ++ news)) (f : Fr R.size wr w' v v') (hk : ∀ k, v'.ownBlock = some k → v.ownBlock = some k ∨ wr.heap.size ≤ k) : Acc R w w' v' (xs ++ [x]) := by
  subst hn
  have hle := hb.size
  have hx1 : R.rep wr (fun b => w.heap.size ≤ b ∧ v.ownBlock ≠ some b) x news := R.mono (fun b h1 h2 => ⟨by omega, fun e => by have := hvB b e; omega⟩) hx
  have hall : Rows R wr (fun b => (w.heap.size ≤ b ∧ v.ownBlock ≠ some b) ∧ b < wr.heap.size) (xs ++ [x]) (rows ++ [news]) := (hr.snoc hx1).mono fun b h1 h2 => ⟨h1, h2⟩
  have kept : Kept (fun b => (w.heap.size ≤ b ∧ v.ownBlock ≠ some b) ∧ b < wr.heap.size) wr w' := fun b hS hlt => f.block b hlt (fun hh => hS.1.2 hh.1)
  have hfin : Rows R w' (fun b => w.heap.size ≤ b ∧ v'.ownBlock ≠ some b) (xs ++ [x]) (rows ++ [news]) := (hall.keep kept).mono fun b hS _ => ⟨hS.1.1, fun e => by
    rcases hk b e with h1 | h1
    · exact hS.1.2 h1
    · have := hS.2
      omega⟩
  refine ⟨hb.trans (f.below_of hle hv), fun b hb' => ?_, rows ++ [news], hfin, by simpa using ho⟩
  rcases hk b hb' with h1 | h1
  · exact hv b h1
  · omega

/-- The end: the list, in its slice. -/
theorem Acc.list (h : Acc R w wr v xs) : Below w.heap.size w wr ∧ (list R).rep wr (fun b => w.heap.size ≤ b) xs [v] := by
  obtain ⟨h1, h2, rows, h3, h4⟩ := h
  exact ⟨h1, v, rows, rfl, h3.mono (fun b hS _ => hS.1), RdS.ofOwn h4 h2⟩

end
end Go.Proofs.Ytolgbnpginifkaa.rep
