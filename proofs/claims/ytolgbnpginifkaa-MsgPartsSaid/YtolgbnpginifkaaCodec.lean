/- The plain law of the numbers' bytes: groups of seven bits, the lowest first, in the fewest bytes. No program in sight. -/
namespace Go.Proofs.Ytolgbnpginifkaa.codec

/-- A number's bytes, of at most f more than one. -/
def gr : Nat → Nat → List UInt8
  | 0, m => [UInt8.ofNat m]
  | f + 1, m => if m ≤ 127 then [UInt8.ofNat m] else UInt8.ofNat (m % 128 + 128) :: gr f (m / 128)

/-- What is read behind k groups: the number, and how many bytes it takes. -/
def rd : Nat → List UInt8 → Option (Nat × Nat)
  | _, [] => none
  | k, c :: r =>
    if (0 < k ∧ c.toNat = 0) ∨ (k = 9 ∧ 1 < c.toNat) then none
    else if c.toNat < 128 then some (c.toNat, 1)
    else (rd (k + 1) r).map fun p => (c.toNat % 128 + 128 * p.1, p.2 + 1)

theorem ofNat_toNat (c : UInt8) : UInt8.ofNat c.toNat = c := by simp
theorem toNat_ofNat {n : Nat} (h : n < 256) : (UInt8.ofNat n).toNat = n := by
  simp [UInt8.toNat_ofNat']; omega

theorem gr_len (f m : Nat) : 0 < (gr f m).length := by
  cases f with
  | zero => simp [gr]
  | succ f => unfold gr; split <;> simp

theorem gr_len_le (f m : Nat) : (gr f m).length ≤ f + 1 := by
  induction f generalizing m with
  | zero => simp [gr]
  | succ f ih => unfold gr; split <;> simp; exact ih _

/-- How great a number may be behind k groups. -/
def lim : Nat → Nat
  | 0 => 18446744073709551616
  | 1 => 144115188075855872
  | 2 => 1125899906842624
  | 3 => 8796093022208
  | 4 => 68719476736
  | 5 => 536870912
  | 6 => 4194304
  | 7 => 32768
  | 8 => 256
  | _ => 2

theorem lim_step {k : Nat} (h : k ≤ 8) : lim k = 128 * lim (k + 1) := by
  match k, h with
  | 0, _ | 1, _ | 2, _ | 3, _ | 4, _ | 5, _ | 6, _ | 7, _ | 8, _ => rfl
theorem lim_big {k : Nat} (h : k ≤ 8) : 128 < lim k := by
  match k, h with
  | 0, _ | 1, _ | 2, _ | 3, _ | 4, _ | 5, _ | 6, _ | 7, _ | 8, _ => decide

/-- What is read was written in the one way there is. -/
theorem rd_back : ∀ (l : List UInt8) (k m n : Nat), k ≤ 9 → rd k l = some (m, n) →
    m < lim k ∧ 0 < n ∧ n ≤ l.length ∧ l.take n = gr (9 - k) m ∧ (0 < k → 0 < m)
  | [], k, m, n, _, h => by simp [rd] at h
  | c :: r, k, m, n, hk, h => by
    rw [rd] at h
    split at h
    · cases h
    · rename_i hc
      split at h
      · rename_i hlt
        cases h
        have hg : ∀ f, gr f c.toNat = [c] := by
          intro f
          cases f with
          | zero => simp [gr]
          | succ f => rw [gr, if_pos (by omega), ofNat_toNat]
        refine ⟨?_, by omega, by simp, by rw [hg]; rfl, fun h => by omega⟩
        by_cases h9 : k = 9
        · subst h9; show _ < 2; omega
        · have := lim_big (k := k) (by omega); omega
      · rename_i hge
        have h8 : k ≤ 8 := by omega
        obtain ⟨⟨m', n'⟩, hr, e⟩ := Option.map_eq_some_iff.1 h
        obtain ⟨i1, i2, i3, i4, i5⟩ := rd_back r (k + 1) m' n' (by omega) hr
        have hm : c.toNat % 128 + 128 * m' = m := congrArg Prod.fst e
        have hn : n' + 1 = n := congrArg Prod.snd e
        subst hm
        subst hn
        have hl := lim_step h8
        have hp := i5 (by omega)
        have hc8 : c.toNat < 256 := c.toNat_lt
        refine ⟨by omega, by omega, by simp; omega, ?_, fun _ => by omega⟩
        obtain ⟨f, hf⟩ : ∃ f, 9 - k = f + 1 := ⟨8 - k, by omega⟩
        have hf' : 9 - (k + 1) = f := by omega
        rw [hf, gr, if_neg (by omega), List.take_succ_cons, i4, hf']
        have e1 : (c.toNat % 128 + 128 * m') % 128 + 128 = c.toNat := by omega
        have e2 : (c.toNat % 128 + 128 * m') / 128 = m' := by omega
        rw [e1, e2, ofNat_toNat]

/-- What is written is read as it was, whatever stands behind. -/
theorem rd_gr (more : List UInt8) : ∀ (f k m : Nat), k + f = 9 → m < lim k → (0 < k → 0 < m) →
    rd k (gr f m ++ more) = some (m, (gr f m).length)
  | 0, k, m, hk, hm, h0 => by
    have : k = 9 := by omega
    subst this
    have hm2 : m < 2 := hm
    have e : (UInt8.ofNat m).toNat = m := toNat_ofNat (by omega)
    rw [gr, List.singleton_append, rd, e, if_neg (by have := h0 (by omega); omega), if_pos (by omega)]
    rfl
  | f + 1, k, m, hk, hm, h0 => by
    unfold gr
    by_cases h : m ≤ 127
    · have e : (UInt8.ofNat m).toNat = m := toNat_ofNat (by omega)
      rw [if_pos h, List.singleton_append, rd, e, if_neg ?_, if_pos (by omega)]
      · rfl
      · rintro (⟨a, b⟩ | ⟨a, b⟩)
        · have := h0 a; omega
        · omega
    · have e : (UInt8.ofNat (m % 128 + 128)).toNat = m % 128 + 128 := toNat_ofNat (by omega)
      have hl := lim_step (k := k) (by omega)
      rw [if_neg h, List.cons_append, rd, e, if_neg (by omega), if_neg (by omega), rd_gr more f (k + 1) (m / 128) (by omega) (by omega) (fun _ => by omega)]
      simp only [Option.map_some, List.length_cons]
      congr 2
      omega

/-- The whole number that stands behind the bytes' number, and back. -/
def zig (n : Int) : Nat := if n < 0 then (2 * (-(n + 1)) + 1).toNat else (2 * n).toNat
def unzig (m : Nat) : Int := if m % 2 = 1 then -(m / 2 : Nat) - 1 else (m / 2 : Nat)

theorem unzig_zig (n : Int) : unzig (zig n) = n := by
  unfold unzig zig
  by_cases h : n < 0
  · rw [if_pos h, if_pos (by omega)]; omega
  · rw [if_neg h, if_neg (by omega)]; omega
theorem zig_unzig (m : Nat) : zig (unzig m) = m := by
  unfold unzig zig
  by_cases h : m % 2 = 1
  · rw [if_pos h, if_pos (by omega)]; omega
  · rw [if_neg h, if_neg (by omega)]; omega
theorem zig_lt {n : Int} (h1 : -9223372036854775808 ≤ n) (h2 : n ≤ 9223372036854775807) : zig n < 18446744073709551616 := by
  unfold zig; split <;> omega
theorem unzig_bounds {m : Nat} (h : m < 18446744073709551616) : -9223372036854775808 ≤ unzig m ∧ unzig m ≤ 9223372036854775807 := by
  unfold unzig; split <;> omega

/-- A number's bytes; a text's. -/
def putI (n : Int) : List UInt8 := gr 9 (zig n)
def putT (s : List UInt8) : List UInt8 := putI s.length ++ s
def putB (b : Bool) : List UInt8 := [if b then 1 else 0]
def putV (e n : Int) : List UInt8 := putI e ++ putI n

/-- What stands at a place: the number, and the place behind it. -/
def getI (l : List UInt8) (at_ : Nat) : Option (Int × Nat) := (rd 0 (l.drop at_)).map fun p => (unzig p.1, at_ + p.2)
def getB (l : List UInt8) (at_ : Nat) : Option (Bool × Nat) :=
  match l[at_]? with
  | some c => if c.toNat ≤ 1 then some (c.toNat == 1, at_ + 1) else none
  | none => none
def getT (l : List UInt8) (at_ : Nat) : Option (List UInt8 × Nat) :=
  match getI l at_ with
  | some (n, nx) => if 0 ≤ n ∧ n ≤ 65536 ∧ nx + n.toNat ≤ l.length then some ((l.drop nx).take n.toNat, nx + n.toNat) else none
  | none => none
def fit (n : Int) : Bool := decide (0 ≤ n) && decide (n ≤ 1099511627776)
def getV (l : List UInt8) (at_ : Nat) : Option ((Int × Int) × Nat) :=
  match getI l at_ with
  | some (e, nx) => if fit e then match getI l nx with
      | some (n, nx') => if fit n then some ((e, n), nx') else none
      | none => none
    else none
  | none => none

/-- The bytes from one place to another. -/
def seg (l : List UInt8) (a b : Nat) : List UInt8 := (l.drop a).take (b - a)
theorem seg_append {l : List UInt8} {a b c : Nat} (h1 : a ≤ b) (h2 : b ≤ c) : seg l a c = seg l a b ++ seg l b c := by
  unfold seg
  rw [show c - a = (b - a) + (c - b) by omega, List.take_add, List.drop_drop, show a + (b - a) = b by omega]

theorem getI_seg {l : List UInt8} {a nx : Nat} {n : Int} (h : getI l a = some (n, nx)) :
    a < nx ∧ nx ≤ l.length ∧ seg l a nx = putI n ∧ -9223372036854775808 ≤ n ∧ n ≤ 9223372036854775807 := by
  unfold getI at h
  obtain ⟨⟨m, k⟩, hr, e⟩ := Option.map_eq_some_iff.1 h
  have e1 : unzig m = n := congrArg Prod.fst e
  have e2 : a + k = nx := congrArg Prod.snd e
  subst e1
  subst e2
  obtain ⟨i1, i2, i3, i4, _⟩ := rd_back _ 0 m k (by omega) hr
  rw [List.length_drop] at i3
  have hb := unzig_bounds (m := m) i1
  refine ⟨by omega, by omega, ?_, hb.1, hb.2⟩
  unfold seg putI
  rw [zig_unzig, show a + k - a = k by omega]
  exact i4

theorem getB_seg {l : List UInt8} {a nx : Nat} {b : Bool} (h : getB l a = some (b, nx)) : a < nx ∧ nx ≤ l.length ∧ seg l a nx = putB b := by
  unfold getB at h
  cases hc : l[a]? with
  | none => rw [hc] at h; cases h
  | some c =>
    rw [hc] at h
    simp only at h
    split at h
    · rename_i hle
      simp only [Option.some.injEq, Prod.mk.injEq] at h
      obtain ⟨rfl, rfl⟩ := h
      have ha : a < l.length := (List.getElem?_eq_some_iff.1 hc).1
      refine ⟨by omega, by omega, ?_⟩
      unfold seg putB
      rw [show a + 1 - a = 1 by omega, List.drop_eq_getElem_cons ha]
      have hce : l[a] = c := (List.getElem?_eq_some_iff.1 hc).2
      rw [hce]
      simp only [List.take_succ_cons, List.take_zero]
      by_cases h1 : c.toNat = 1
      · have : c = 1 := by rw [← ofNat_toNat c, h1]; rfl
        subst this; rfl
      · have h0 : c.toNat = 0 := by omega
        have : c = 0 := by rw [← ofNat_toNat c, h0]; rfl
        subst this; rfl
    · cases h

theorem getT_seg {l : List UInt8} {a nx : Nat} {s : List UInt8} (h : getT l a = some (s, nx)) : a < nx ∧ nx ≤ l.length ∧ seg l a nx = putT s ∧ s.length ≤ 65536 := by
  unfold getT at h
  cases hi : getI l a with
  | none => rw [hi] at h; cases h
  | some p =>
    obtain ⟨n, k⟩ := p
    rw [hi] at h
    simp only at h
    split at h
    · rename_i hc
      simp only [Option.some.injEq, Prod.mk.injEq] at h
      obtain ⟨rfl, rfl⟩ := h
      obtain ⟨i1, i2, i3, _, _⟩ := getI_seg hi
      have hl : ((l.drop k).take n.toNat).length = n.toNat := by rw [List.length_take, List.length_drop]; omega
      refine ⟨by omega, by omega, ?_, by omega⟩
      rw [seg_append (Nat.le_of_lt i1) (show k ≤ k + n.toNat by omega), i3, putT, hl, show ((n.toNat : Nat) : Int) = n by omega]
      unfold seg
      rw [show k + n.toNat - k = n.toNat by omega]
    · cases h

theorem getV_seg {l : List UInt8} {a nx : Nat} {e n : Int} (h : getV l a = some ((e, n), nx)) : a < nx ∧ nx ≤ l.length ∧ seg l a nx = putV e n ∧ fit e = true ∧ fit n = true := by
  unfold getV at h
  cases hi : getI l a with
  | none => rw [hi] at h; cases h
  | some p =>
    obtain ⟨e', k⟩ := p
    rw [hi] at h
    simp only at h
    split at h
    · rename_i he
      cases hj : getI l k with
      | none => rw [hj] at h; cases h
      | some q =>
        obtain ⟨n', k'⟩ := q
        rw [hj] at h
        simp only at h
        split at h
        · rename_i hn
          simp only [Option.some.injEq, Prod.mk.injEq] at h
          obtain ⟨⟨rfl, rfl⟩, rfl⟩ := h
          obtain ⟨i1, i2, i3, _, _⟩ := getI_seg hi
          obtain ⟨j1, j2, j3, _, _⟩ := getI_seg hj
          refine ⟨by omega, j2, ?_, he, hn⟩
          rw [seg_append (Nat.le_of_lt i1) (Nat.le_of_lt j1), i3, j3, putV]
        · cases h
    · cases h

theorem drop_mid (pre mid more : List UInt8) : (pre ++ (mid ++ more)).drop pre.length = mid ++ more := by
  rw [List.drop_append_of_le_length (Nat.le_refl _), List.drop_length, List.nil_append]

/-- What is written is read as it was, whatever stands ahead and behind. -/
theorem getI_put (pre more : List UInt8) (n : Int) (h1 : -9223372036854775808 ≤ n) (h2 : n ≤ 9223372036854775807) :
    getI (pre ++ (putI n ++ more)) pre.length = some (n, pre.length + (putI n).length) := by
  unfold getI putI
  rw [drop_mid, rd_gr more 9 0 (zig n) (by omega) (zig_lt h1 h2) (fun h => by omega)]
  simp only [Option.map_some, unzig_zig]

theorem getT_put (pre more s : List UInt8) (h : s.length ≤ 65536) : getT (pre ++ (putT s ++ more)) pre.length = some (s, pre.length + (putT s).length) := by
  unfold getT putT
  rw [show pre ++ (putI s.length ++ s ++ more) = pre ++ (putI s.length ++ (s ++ more)) by simp, getI_put pre (s ++ more) s.length (by omega) (by omega)]
  simp only [Int.toNat_natCast, List.length_append]
  rw [if_pos ⟨by omega, by omega, by omega⟩]
  have e : (pre ++ (putI s.length ++ (s ++ more))).drop (pre.length + (putI s.length).length) = s ++ more := by
    rw [← List.append_assoc, ← List.length_append, List.drop_append_of_le_length (Nat.le_refl _), List.drop_length, List.nil_append]
  rw [e, List.take_append_of_le_length (Nat.le_refl _), List.take_of_length_le (Nat.le_refl _), Nat.add_assoc]

/-- Of two unlike numbers one's bytes don't begin the other one's. -/
theorem putI_begins {a b : Int} (ha : -9223372036854775808 ≤ a ∧ a ≤ 9223372036854775807) (hb : -9223372036854775808 ≤ b ∧ b ≤ 9223372036854775807) {r : List UInt8} (h : putI b = putI a ++ r) : a = b := by
  have h1 := getI_put [] r a ha.1 ha.2
  have h2 := getI_put [] [] b hb.1 hb.2
  rw [List.nil_append, List.append_nil] at h2
  rw [List.nil_append] at h1
  rw [← h, h2] at h1
  simp only [Option.some.injEq, Prod.mk.injEq] at h1
  exact h1.1.symm

theorem putT_begins {s t r : List UInt8} (hs : s.length ≤ 65536) (ht : t.length ≤ 65536) (h : putT t = putT s ++ r) : s = t := by
  have h1 := getT_put [] r s hs
  have h2 := getT_put [] [] t ht
  rw [List.nil_append, List.append_nil] at h2
  rw [List.nil_append] at h1
  rw [← h, h2] at h1
  simp only [Option.some.injEq, Prod.mk.injEq] at h1
  exact h1.1.symm

/-! ### The other way to read: first where the number ends, then its value from the highest group down -/
def hv : List UInt8 → Nat
  | [] => 0
  | c :: r => c.toNat % 128 + 128 * hv r

/-- All but the last byte are at least 128. -/
def high (l : List UInt8) : Prop := ∀ c ∈ l, 128 ≤ c.toNat

theorem rd_runs_out : ∀ (p : List UInt8) (k : Nat), high p → rd k p = none
  | [], k, _ => by simp [rd]
  | c :: r, k, h => by
    have hc := h c (by simp)
    rw [rd]
    split
    · rfl
    · rw [if_neg (by omega), rd_runs_out r (k + 1) (fun x hx => h x (by simp [hx]))]
      rfl

theorem rd_too_long : ∀ (p : List UInt8) (k : Nat) (more : List UInt8), high p → k + p.length = 10 → 0 < p.length → rd k (p ++ more) = none
  | [], k, more, _, _, h => by simp at h
  | c :: r, k, more, h, hk, _ => by
    have hc := h c (by simp)
    rw [List.cons_append, rd]
    simp only [List.length_cons] at hk
    by_cases h9 : k = 9
    · rw [if_pos (.inr ⟨h9, by omega⟩)]
    · rw [if_neg (by omega), if_neg (by omega), rd_too_long r (k + 1) more (fun x hx => h x (by simp [hx])) (by omega) (by omega)]
      rfl

theorem hv_lt (p : List UInt8) : hv p < 128 ^ p.length := by
  induction p with
  | nil => simp [hv]
  | cons c r ih =>
    rw [hv, List.length_cons, Nat.pow_succ]
    omega

/-- A number that ends: what is read of it. -/
theorem rd_ends : ∀ (p : List UInt8) (k : Nat) (c : UInt8) (more : List UInt8), high p → c.toNat < 128 → k + p.length ≤ 9 →
    rd k (p ++ c :: more) = if (0 < k + p.length ∧ c.toNat = 0) ∨ lim k ≤ hv (p ++ [c]) then none else some (hv (p ++ [c]), p.length + 1)
  | [], k, c, more, _, hc, hk => by
    have hv1 : hv [c] = c.toNat := by simp [hv]; omega
    simp only [List.length_nil, Nat.add_zero] at hk ⊢
    rw [List.nil_append, List.nil_append, rd, hv1]
    by_cases h9 : k = 9
    · subst h9
      have hl : lim 9 = 2 := rfl
      rw [hl]
      by_cases h : c.toNat = 0 ∨ 1 < c.toNat
      · rw [if_pos (by omega), if_pos (by omega)]
      · rw [if_neg (by omega), if_pos hc, if_neg (by omega)]
    · have hb := lim_big (k := k) (by omega)
      by_cases h : 0 < k ∧ c.toNat = 0
      · rw [if_pos (.inl h), if_pos (.inl h)]
      · rw [if_neg (by omega), if_pos hc, if_neg (by omega)]
  | d :: r, k, c, more, h, hc, hk => by
    have hd := h d (by simp)
    have hd8 : d.toNat < 256 := d.toNat_lt
    simp only [List.length_cons] at hk ⊢
    have ih := rd_ends r (k + 1) c more (fun x hx => h x (by simp [hx])) hc (by omega)
    have hl := lim_step (k := k) (by omega)
    rw [List.cons_append, rd, if_neg (by omega), if_neg (by omega), ih, List.cons_append, hv]
    by_cases hz : c.toNat = 0
    · rw [if_pos (.inl ⟨by omega, hz⟩), if_pos (.inl ⟨by omega, hz⟩)]
      rfl
    · by_cases ho : lim (k + 1) ≤ hv (r ++ [c])
      · rw [if_pos (.inr ho), if_pos (.inr (by omega))]
        rfl
      · rw [if_neg (by omega), if_neg (by omega)]
        rfl

end Go.Proofs.Ytolgbnpginifkaa.codec
