/- Slices of bytes in a walk: 'Rd' (a slice reads as these bytes), 'Has' (and is the call's own), 'St' (the call's own slices so far, each in a block of its own). No function of the program in sight. -/
import Derived.Test.YtolgbnpginifkaaOwn
namespace Go.Proofs.Ytolgbnpginifkaa.st
open Go.RowKit own

/-- A byte, as a cell holds it. -/
def B (c : UInt8) : Value := .int .u8 (c.toNat : Int)

/-- The slice v reads as the bytes l. -/
def Rd (w : World) (v : Value) (l : List UInt8) : Prop :=
  ∃ a cap, v = .slice a l.length cap ∧ l.length ≤ cap ∧ cap ≤ maxLen ∧ ∀ i c, l[i]? = some c → ∃ x, a = some x ∧ w.cell? (x.add i) = some (B c)

/-- .. and is a row that the call made. -/
def Has (w : World) (v : Value) (l : List UInt8) : Prop := Own 1 w v l.length (l.map B)

theorem addBlock (x : Addr) (i : Nat) : (x.add i).block = x.block := by
  unfold Addr.add; split <;> rfl

theorem Rd.below {n : Nat} {w w' : World} {v : Value} {l : List UInt8} (h : Rd w v l) (hb : Below n w w') (hn : w.heap.size ≤ n) : Rd w' v l := by
  obtain ⟨a, cap, hv, h1, h2, hc⟩ := h
  refine ⟨a, cap, hv, h1, h2, fun i c hi => ?_⟩
  obtain ⟨x, hx, hcell⟩ := hc i c hi
  have hlt := World.block_lt_of_cell? _ _ hcell
  exact ⟨x, hx, by rw [hb.cell (by omega)]; exact hcell⟩

theorem Has.rd {w : World} {v : Value} {l : List UInt8} (h : Has w v l) : Rd w v l := by
  rcases h.2 with ⟨hv, h0⟩ | ⟨g, off, cap, hv, hn, hm, hg, hc, hx⟩
  · have : l = [] := List.length_eq_zero_iff.1 h0
    subst this
    exact ⟨none, 0, hv, Nat.le_refl _, by simp, fun i c hi => by simp at hi⟩
  · refine ⟨some ⟨g, off, none⟩, cap, hv, hn, hm, fun i c hi => ⟨_, rfl, ?_⟩⟩
    rw [Addr.add_lit]
    exact hx i (B c) (by rw [List.getElem?_map, hi]; rfl)

theorem Has.nil (w : World) : Has w (.slice none 0 0) [] := Own.nil 1 w

theorem Rd.src {P : Program} {w : World} {v : Value} {l : List UInt8} (h : Rd w v l) {tx e' : TypeId} (hk : P.underlying tx = some (.slice e')) : Src P 1 tx v l.length (l.map B) w := by
  obtain ⟨a, cap, rfl, h1, h2, hc⟩ := h
  have one : ∀ u ∈ l.map B, u.oneCell' = true := fun u hu => by
    obtain ⟨_, _, rfl⟩ := List.mem_map.1 hu
    rfl
  rcases l with _ | ⟨c, r⟩
  · rcases a with _ | x
    · exact Src.ofNil w hk cap
    · exact Src.ofSlice w hk x 0 cap [] (by simp) (fun j u hu => by simp at hu) one
  · obtain ⟨x, rfl, _⟩ := hc 0 c rfl
    refine Src.ofSlice w hk x _ cap _ (by simp) (fun j u hu => ?_) one
    rw [List.getElem?_map] at hu
    obtain ⟨d, hd, rfl⟩ := Option.map_eq_some_iff.1 hu
    obtain ⟨y, hy, hcell⟩ := hc j d hd
    cases hy
    exact hcell

/-- Two slices lie in two blocks. -/
def Sep (u v : Value) : Prop := ∀ k, u.ownBlock = some k → v.ownBlock ≠ some k

def Liv (B0 : Nat) (w : World) : List (Value × List UInt8) → Prop
  | [] => True
  | p :: r => Has w p.1 p.2 ∧ (∀ k, p.1.ownBlock = some k → B0 ≤ k) ∧ (∀ q ∈ r, Sep p.1 q.1) ∧ Liv B0 w r

/-- The call began in W (blocks from B0 on are its own); in w it owns the slices L. -/
structure St (B0 : Nat) (W w : World) (L : List (Value × List UInt8)) : Prop where
  bel : Below B0 W w
  le : B0 ≤ w.heap.size
  liv : Liv B0 w L

theorem St.start (W : World) : St W.heap.size W W [] := ⟨Below.refl _ _, Nat.le_refl _, trivial⟩

theorem Liv.below {B0 : Nat} {w w' : World} (hb : Below w.heap.size w w') : ∀ {L : List (Value × List UInt8)}, Liv B0 w L → Liv B0 w' L
  | [], _ => trivial
  | _ :: _, h => ⟨h.1.below hb h.1.lt, h.2.1, h.2.2.1, Liv.below hb h.2.2.2⟩

theorem Liv.lt {B0 : Nat} {w : World} : ∀ {L : List (Value × List UInt8)}, Liv B0 w L → ∀ q ∈ L, ∀ k, q.1.ownBlock = some k → k < w.heap.size
  | [], _, _, hq, _, _ => by cases hq
  | _ :: _, h, q, hq, k, hk => by
    rcases List.mem_cons.1 hq with rfl | hq
    · exact h.1.lt k hk
    · exact Liv.lt h.2.2.2 q hq k hk

variable {B0 : Nat} {W w w' : World} {L : List (Value × List UInt8)}

/-- Nothing old turned. -/
theorem St.quiet (s : St B0 W w L) (hb : Below w.heap.size w w') : St B0 W w' L :=
  ⟨s.bel.trans (hb.mono s.le), Nat.le_trans s.le hb.size, s.liv.below hb⟩

theorem St.alloc (s : St B0 W w L) (o : Obj) : St B0 W (w.alloc o) L := s.quiet ((Below.refl _ _).alloc (Nat.le_refl _) o)
theorem St.drew (s : St B0 W w L) : St B0 W w.drew L := s.quiet (Below.refl _ _).drew

/-- A slice more, in a new block (or nil). -/
theorem St.new (s : St B0 W w L) (hb : Below w.heap.size w w') {v : Value} {l : List UInt8} (hv : Has w' v l) (hf : ∀ k, v.ownBlock = some k → w.heap.size ≤ k) : St B0 W w' ((v, l) :: L) := by
  have hle := s.le
  refine ⟨s.bel.trans (hb.mono s.le), Nat.le_trans s.le hb.size, hv, fun k hk => by have := hf k hk; omega, fun q hq k hk hq' => ?_, s.liv.below hb⟩
  have h1 := hf k hk
  have h2 := s.liv.lt q hq k hq'
  omega

theorem St.nil (s : St B0 W w L) : St B0 W w ((.slice none 0 0, []) :: L) :=
  s.new (Below.refl _ _) (Has.nil w) (fun k hk => by simp [Value.ownBlock] at hk)

theorem Has.other {u v v' : Value} {l : List UInt8} (h : Has w u l) (f : Fr 1 w w' v v') (hs : Sep v u) : Has w' u l := by
  rcases h.2 with h2 | ⟨g, off, cap, rfl, _⟩
  · exact ⟨h.1, .inl h2⟩
  · exact Own.other h f (.inl fun e => hs g e.symm rfl)

theorem Liv.fr {v v' : Value} (f : Fr 1 w w' v v') : ∀ {L : List (Value × List UInt8)}, (∀ q ∈ L, Sep v q.1) → Liv B0 w L → Liv B0 w' L
  | [], _, _ => trivial
  | q :: _, hs, h => ⟨h.1.other f (hs q (by simp)), h.2.1, h.2.2.1, Liv.fr f (fun x hx => hs x (by simp [hx])) h.2.2.2⟩

/-- What an append (or many) to v leaves behind. -/
structure Puts (w w' : World) (v v' : Value) (l : List UInt8) : Prop where
  has : Has w' v' l
  fr : Fr 1 w w' v v'
  own : ∀ k, v'.ownBlock = some k → v.ownBlock = some k ∨ w.heap.size ≤ k

theorem Puts.refl {v : Value} {l : List UInt8} (h : Has w v l) : Puts w w v v l := ⟨h, Fr.refl _ _ _, fun _ hk => .inl hk⟩
theorem Puts.trans {w'' : World} {v v' v'' : Value} {l l' : List UInt8} (h : Puts w w' v v' l) (k : Puts w' w'' v' v'' l') : Puts w w'' v v'' l' := by
  have hle := h.fr.size_le
  refine ⟨k.has, h.fr.trans k.fr, fun x hx => ?_⟩
  rcases k.own x hx with h1 | h1
  · exact h.own x h1
  · exact .inr (by omega)

theorem Puts.quiet {v : Value} {l : List UInt8} (h : Has w v l) (hb : Below w.heap.size w w') : Puts w w' v v l :=
  ⟨h.below hb h.lt, Fr.of_below hb v, fun _ hk => .inl hk⟩

/-- An append to the slice at the head; behind it; two behind. -/
theorem St.app0 {v v' : Value} {l l' : List UInt8} (s : St B0 W w ((v, l) :: L)) (p : Puts w w' v v' l') : St B0 W w' ((v', l') :: L) := by
  obtain ⟨h1, h2, h3, h4⟩ := s.liv
  have hle := s.le
  have hlt := h4.lt
  refine ⟨s.bel.trans (p.fr.below_of s.le h2), Nat.le_trans s.le p.fr.size_le, p.has, fun k hk => ?_, fun q hq k hk => ?_, h4.fr p.fr h3⟩
  · rcases p.own k hk with h | h
    · exact h2 k h
    · omega
  · rcases p.own k hk with h | h
    · exact h3 q hq k h
    · intro hq'; have := hlt q hq k hq'; omega

theorem St.swap {p q : Value × List UInt8} (s : St B0 W w (p :: q :: L)) : St B0 W w (q :: p :: L) := by
  obtain ⟨h1, h2, h3, h4, h5, h6, h7⟩ := s.liv
  refine ⟨s.bel, s.le, h4, h5, fun x hx => ?_, h1, h2, fun x hx => h3 x (by simp [hx]), h7⟩
  rcases List.mem_cons.1 hx with rfl | hx
  · exact fun k hk hk' => h3 q (by simp) k hk' hk
  · exact h6 x hx

theorem St.drop {p : Value × List UInt8} (s : St B0 W w (p :: L)) : St B0 W w L := ⟨s.bel, s.le, s.liv.2.2.2⟩
theorem St.cons (p : Value × List UInt8) {L' : List (Value × List UInt8)} (s : St B0 W w (p :: L)) (h : ∀ {w : World}, St B0 W w L → St B0 W w L') (hsub : ∀ q ∈ L', q ∈ L) : St B0 W w (p :: L') := by
  obtain ⟨h1, h2, h3, h4⟩ := s.liv
  exact ⟨s.bel, s.le, h1, h2, fun q hq => h3 q (hsub q hq), (h ⟨s.bel, s.le, h4⟩).liv⟩

theorem St.app1 {p : Value × List UInt8} {v v' : Value} {l l' : List UInt8} (s : St B0 W w (p :: (v, l) :: L)) (h : Puts w w' v v' l') : St B0 W w' (p :: (v', l') :: L) := (s.swap.app0 h).swap

theorem St.drop1 {p q : Value × List UInt8} (s : St B0 W w (p :: q :: L)) : St B0 W w (p :: L) := s.swap.drop

theorem St.has0 {p : Value × List UInt8} (s : St B0 W w (p :: L)) : Has w p.1 p.2 := s.liv.1
theorem St.has1 {p q : Value × List UInt8} (s : St B0 W w (p :: q :: L)) : Has w q.1 q.2 := s.liv.2.2.2.1
theorem St.has2 {p q r : Value × List UInt8} (s : St B0 W w (p :: q :: r :: L)) : Has w r.1 r.2 := s.liv.2.2.2.2.2.2.1
theorem St.has3 {p q r t : Value × List UInt8} (s : St B0 W w (p :: q :: r :: t :: L)) : Has w t.1 t.2 := s.liv.2.2.2.2.2.2.2.2.2.1

/-- A slice that the call was handed reads as it did. -/
theorem St.old {v : Value} {l : List UInt8} (s : St W.heap.size W w L) (h : Rd W v l) : Rd w v l := h.below s.bel (Nat.le_refl _)

theorem Has.clip {a : Option Addr} {n cap : Nat} {l : List UInt8} (h : Has w (.slice a n cap) l) : Has w (.slice a n n) l := by
  have e : n = l.length := by
    rcases h.2 with ⟨h2, h3⟩ | ⟨g, off, c, h2, _⟩
    · simp only [Value.slice.injEq] at h2; omega
    · simp only [Value.slice.injEq] at h2; exact h2.2.1
  subst e
  exact Own.clip h

/-- What was put behind a slice that is cut at its own length lies in a new block, all else is as it was. -/
theorem Puts.clipped {a : Option Addr} {n : Nat} {v' : Value} {l : List UInt8} (h : Puts w w' (.slice a n n) v' l) (hl : n < l.length) : Below w.heap.size w w' ∧ ∀ k, v'.ownBlock = some k → w.heap.size ≤ k := by
  refine ⟨h.fr.below (fun ⟨_, _, _, e, hlt⟩ => ?_), fun k hk => ?_⟩
  · simp only [Value.slice.injEq] at e
    omega
  · obtain ⟨b, cap, hv⟩ := h.has.len
    rcases h.fr.next with e | ⟨g, off, m, m', c, e, e', hm⟩ | ⟨g, off, m, c, e, hg⟩
    · rw [e] at hv
      simp only [Value.slice.injEq] at hv
      omega
    · rw [hv] at e'
      simp only [Value.slice.injEq] at e e'
      obtain ⟨hva, hvl, hvc⟩ := e'
      rcases h.has.2 with ⟨e2, e3⟩ | ⟨g2, off2, c2, e2, h2, _⟩
      · omega
      · rw [hv] at e2
        simp only [Value.slice.injEq] at e2
        omega
    · rw [e] at hk
      simp only [Value.ownBlock, Option.some.injEq] at hk
      omega

theorem St.clipped {a : Option Addr} {n : Nat} {v' : Value} {l : List UInt8} (s : St B0 W w L) (h : Puts w w' (.slice a n n) v' l) (hl : n < l.length) : St B0 W w' ((v', l) :: L) :=
  s.new (h.clipped hl).1 h.has (h.clipped hl).2

/-- .. behind the nil slice. -/
theorem St.ofNil {v' : Value} {l : List UInt8} (s : St B0 W w L) (h : Puts w w' (.slice none 0 0) v' l) : St B0 W w' ((v', l) :: L) := by
  refine s.new (h.fr.below (fun ⟨_, _, _, e, hlt⟩ => ?_)) h.has (fun k hk => ?_)
  · simp only [Value.slice.injEq] at e
    omega
  · rcases h.own k hk with h1 | h1
    · simp [Value.ownBlock] at h1
    · exact h1

theorem Has.alloc {v : Value} {l : List UInt8} (h : Has w v l) (o : Obj) : Has (w.alloc o) v l := Own.alloc h o
theorem Has.drew {v : Value} {l : List UInt8} (h : Has w v l) : Has w.drew v l := Own.drew h
theorem Puts.thenAlloc {w'' : World} {v v' v'' : Value} {l l' : List UInt8} (h : Puts w w' v v' l) {o : Obj} (k : Puts (w'.alloc o) w'' v' v'' l') : Puts w w'' v v'' l' :=
  h.trans ((Puts.quiet h.has ((Below.refl _ _).alloc (Nat.le_refl _) o)).trans k)

/-- One byte, in the block that an append's own literal makes. -/
theorem Rd.byte (w : World) (c : UInt8) (i : Int) (hi : i = (c.toNat : Int)) (T : TypeId) : Rd (w.alloc (.cells #[.int .u8 i] T)) (.slice (some ⟨w.heap.size, 0, none⟩) 1 1) [c] := by
  refine ⟨_, 1, rfl, Nat.le_refl _, by simp [maxLen], fun k d hd => ⟨_, rfl, ?_⟩⟩
  rcases k with _ | k
  · rw [Addr.add_lit, World.cell?_alloc_new]
    simp only [List.getElem?_cons_zero, Option.some.injEq] at hd
    subst hd
    subst hi
    rfl
  · simp at hd

/-- A literal's bytes, in its new block. -/
theorem Has.cells (w : World) (l : List UInt8) (cs : Array Value) (T : TypeId) (n : Nat) (h : cs = (l.map B).toArray) (hn : n = l.length) (hm : n ≤ maxLen) : Has (w.alloc (.cells cs T)) (.slice (some ⟨w.heap.size, 0, none⟩) n n) l := by
  subst h
  subst hn
  have h := Own.made (w := w) (size := 1) (l.map B).toArray T l.length l.length (by simp) (Nat.le_refl _) hm
  simp only [Nat.mul_one] at h
  rw [List.take_of_length_le (by simp)] at h
  exact h

theorem St.lit (s : St B0 W w L) (l : List UInt8) (cs : Array Value) (T : TypeId) (n : Nat) (h : cs = (l.map B).toArray) (hn : n = l.length) (hm : n ≤ maxLen) :
    St B0 W (w.alloc (.cells cs T)) ((.slice (some ⟨w.heap.size, 0, none⟩) n n, l) :: L) :=
  s.new ((Below.refl _ _).alloc (Nat.le_refl _) _) (Has.cells w l cs T n h hn hm) (fun k hk => by simp only [Value.ownBlock, Option.some.injEq] at hk; omega)

/-- THE LAW OF append, in these words: a slice of bytes behind; a string behind. -/
theorem wpList_put {P : Program} {w : World} {ops : Array Oper} {rest : List Oper} {o : Oper} {a : Act} {Q : Exit → Act → World → Prop} (hgd : o.guard = none) (s x : Operand) (t tx : TypeId)
    (ho : o.op = .call { callee := .builtin .append, args := #[s, x], argTypes := #[t, tx] })
    (e : TypeId) (i : TypeInfo) (ht : P.underlying t = some (.slice e)) (hi : P.info? e = some i) (hz : i.zero = some (.int .u8 0)) (hsize : i.size = 1) (hby : i.bytes = 1)
    {v : Value} {l : List UInt8} (hv : a.eval s = v) (h : Has w v l)
    (xv : Value) (m : List UInt8) (hx : a.eval x = xv) (hs : Src P 1 tx xv m.length (m.map B) w) (hlen : l.length + m.length ≤ 140737488355328)
    (hK : ∀ v' w', Puts w w' v v' (l ++ m) → wpList P ops Q rest (a.put o.dst v') w') : wpList P ops Q (o :: rest) a w := by
  refine wpList_append hgd s x t tx ho e i (.int .u8 0) 1 1 ht hi hz hsize hby rfl hv h xv m.length (m.map B) hx hs (by simp [maxLen]; omega) (by omega) ?_
  intro v' w' r f g
  refine hK v' w' ⟨?_, f, g⟩
  unfold Has
  rw [List.map_append, List.length_append]
  exact r

theorem byteCells_eq (s : ByteArray) : byteCells s = s.data.toList.map B := rfl

theorem strSrc {P : Program} (w : World) {tx : TypeId} (hk : P.underlying tx = some .string) (s : ByteArray) : Src P 1 tx (.string s) s.data.toList.length (s.data.toList.map B) w := by
  have := Src.ofString w hk s
  rw [byteCells_eq] at this
  exact this

end Go.Proofs.Ytolgbnpginifkaa.st
