/- The contract of wire.groups: what it reads, the world left as it is. -/
import Derived.Test.YtolgbnpginifkaaRows
import Derived.Test.YtolgbnpginifkaaGoto
import Derived.Test.YtolgbnpginifkaaPut
namespace Go.Proofs.Ytolgbnpginifkaa.groups
open Go.ChangeShapes Go.WideShapes Go.ChangeAt Go.RowKit codec jumps st
set_option linter.unusedVariables false

/-- What groups answers. -/
def gv : Option (Nat × Nat) → Nat → Value
  | none, _ => .tuple #[.int .u64 0, .int .i64 0, .bool false]
  | some p, at_ => .tuple #[.int .u64 (p.1 : Int), .int .i64 ((at_ + p.2 : Nat) : Int), .bool true]

/-- k groups are read: their value m; what stands behind decides. -/
def Inv (l : List UInt8) (at_ k m : Nat) : Prop :=
  k ≤ 9 ∧ m < 2 ^ (7 * k) ∧ rd 0 (l.drop at_) = (rd k (l.drop (at_ + k))).map fun p => (m + 2 ^ (7 * k) * p.1, p.2 + k)

theorem Inv.start (l : List UInt8) (at_ : Nat) : Inv l at_ 0 0 := by
  refine ⟨by omega, by simp, ?_⟩
  cases h : rd 0 (l.drop at_) <;> simp

theorem drop_cons {l : List UInt8} {i : Nat} {c : UInt8} (h : l[i]? = some c) : l.drop i = c :: l.drop (i + 1) := by
  obtain ⟨hi, e⟩ := List.getElem?_eq_some_iff.1 h
  rw [List.drop_eq_getElem_cons hi, e]

theorem Inv.ends {l : List UInt8} {at_ k m : Nat} (h : Inv l at_ k m) (hl : l.length ≤ at_ + k) : rd 0 (l.drop at_) = none := by
  rw [h.2.2, List.drop_eq_nil_of_le hl]
  simp [rd]

theorem Inv.bad {l : List UInt8} {at_ k m : Nat} {c : UInt8} (h : Inv l at_ k m) (hc : l[at_ + k]? = some c) (hb : (0 < k ∧ c.toNat = 0) ∨ (k = 9 ∧ 1 < c.toNat)) : rd 0 (l.drop at_) = none := by
  rw [h.2.2, drop_cons hc, rd, if_pos hb]
  rfl

theorem Inv.last {l : List UInt8} {at_ k m : Nat} {c : UInt8} (h : Inv l at_ k m) (hc : l[at_ + k]? = some c) (hb : ¬ ((0 < k ∧ c.toNat = 0) ∨ (k = 9 ∧ 1 < c.toNat))) (h128 : c.toNat < 128) :
    rd 0 (l.drop at_) = some (m + 2 ^ (7 * k) * (c.toNat % 128), k + 1) := by
  rw [h.2.2, drop_cons hc, rd, if_neg hb, if_pos h128, Nat.mod_eq_of_lt h128]
  simp [Nat.add_comm]

theorem Inv.next {l : List UInt8} {at_ k m : Nat} {c : UInt8} (h : Inv l at_ k m) (hc : l[at_ + k]? = some c) (hb : ¬ ((0 < k ∧ c.toNat = 0) ∨ (k = 9 ∧ 1 < c.toNat))) (h128 : ¬ c.toNat < 128) :
    Inv l at_ (k + 1) (m + 2 ^ (7 * k) * (c.toNat % 128)) := by
  obtain ⟨h1, h2, h3⟩ := h
  have h8 : k ≤ 8 := by omega
  have e : 2 ^ (7 * (k + 1)) = 2 ^ (7 * k) * 128 := by rw [show 7 * (k + 1) = 7 * k + 7 by omega, Nat.pow_add]
  refine ⟨by omega, ?_, ?_⟩
  · rw [e]
    have : c.toNat % 128 + 1 ≤ 128 := by omega
    have := Nat.mul_le_mul_left (2 ^ (7 * k)) this
    rw [Nat.mul_add, Nat.mul_one] at this
    omega
  · rw [h3, drop_cons hc, rd, if_neg hb, if_neg h128, Option.map_map, e, show at_ + (k + 1) = at_ + k + 1 by omega]
    congr 1
    funext p
    simp only [Function.comp, Prod.mk.injEq]
    refine ⟨?_, by omega⟩
    rw [Nat.mul_add, ← Nat.mul_assoc, Nat.add_assoc]

theorem low7_8 (c : UInt8) : bits .and .u8 (c.toNat : Int) 127 = (c.toNat : Int) % 128 := by
  have h : c.toNat < 256 := c.toNat_lt
  rw [u8_and _ _ (by omega) (by omega) (by omega) (by omega)]
  have : ((c.toNat : Int).toNat &&& (127 : Int).toNat) = c.toNat % 128 := nat_mask7 c.toNat
  rw [this]
  rfl

/-- What holds at the labels: 0 (nothing stands there), 1 (a group more), 2 (it was the last one). -/
def J (l : List UInt8) (at_ : Nat) (v : Value) (w : World) (lab : Nat) (a : Act) (w' : World) : Prop :=
  w = w' ∧ ((lab = 0 ∧ rd 0 (l.drop at_) = none ∧ ∃ u0 u1 u2 u3 u4 u5 u6 u7 u8 u9 u10 u11 u12 u13 u14 u15 u16 u17 u18 u19 u20 u21 u22 u23 u24 u25 u26 u27 u28 u29 u30 u31 u32 u33 u34 u35 u36 u37 u38 u39 u40 u41 u42 u43 u44 u45 u46 u47 u48 : Value, a = { tmps := #[u0, u1, u2, u3, u4, u5, u6, u7, u8, u9, u10, u11, u12, u13, u14, u15, u16, u17, u18, u19, u20, u21, u22, u23, u24, u25, u26, u27, u28, u29, u30, u31, u32, u33, u34, u35, u36, u37, u38, u39, u40, u41, u42, u43, u44, u45, u46, u47, u48], defers := [] }) ∨
   (lab = 1 ∧ ∃ (k m : Nat) (zat zm zs : Int), Inv l at_ k m ∧ 1 ≤ k ∧ zat = ((at_ + k : Nat) : Int) ∧ zm = (m : Int) ∧ zs = ((7 * k : Nat) : Int) ∧ ∃ u9 u10 u11 u12 u13 u14 u15 u16 u17 u18 u19 u20 u21 u22 u23 u24 u25 u26 u27 u28 u29 u30 u31 u32 u33 u34 u35 u36 u37 u38 u39 u40 u41 u42 u43 u44 u45 u46 u47 u48 : Value, a = { tmps := #[v, .int .i64 zat, undef, undef, .int .u64 0, .int .i64 0, .bool false, .int .u64 zm, .int .u64 zs, u9, u10, u11, u12, u13, u14, u15, u16, u17, u18, u19, u20, u21, u22, u23, u24, u25, u26, u27, u28, u29, u30, u31, u32, u33, u34, u35, u36, u37, u38, u39, u40, u41, u42, u43, u44, u45, u46, u47, u48], defers := [] }) ∨
   (lab = 2 ∧ ∃ (n m : Nat) (zat zm : Int), rd 0 (l.drop at_) = some (m, n) ∧ zat = ((at_ + n : Nat) : Int) ∧ zm = (m : Int) ∧ ∃ u0 u2 u3 u4 u5 u6 u8 u9 u10 u11 u12 u13 u14 u15 u16 u17 u18 u19 u20 u21 u22 u23 u24 u25 u26 u27 u28 u29 u30 u31 u32 u33 u34 u35 u36 u37 u38 u39 u40 u41 u42 u43 u44 u45 u46 u47 u48 : Value, a = { tmps := #[u0, .int .i64 zat, u2, u3, u4, u5, u6, .int .u64 zm, u8, u9, u10, u11, u12, u13, u14, u15, u16, u17, u18, u19, u20, u21, u22, u23, u24, u25, u26, u27, u28, u29, u30, u31, u32, u33, u34, u35, u36, u37, u38, u39, u40, u41, u42, u43, u44, u45, u46, u47, u48], defers := [] }))

theorem J.none {l : List UInt8} {at_ : Nat} {v : Value} {w : World} {a : Act} (h : rd 0 (l.drop at_) = none) {u0 u1 u2 u3 u4 u5 u6 u7 u8 u9 u10 u11 u12 u13 u14 u15 u16 u17 u18 u19 u20 u21 u22 u23 u24 u25 u26 u27 u28 u29 u30 u31 u32 u33 u34 u35 u36 u37 u38 u39 u40 u41 u42 u43 u44 u45 u46 u47 u48 : Value} (ha : a = { tmps := #[u0, u1, u2, u3, u4, u5, u6, u7, u8, u9, u10, u11, u12, u13, u14, u15, u16, u17, u18, u19, u20, u21, u22, u23, u24, u25, u26, u27, u28, u29, u30, u31, u32, u33, u34, u35, u36, u37, u38, u39, u40, u41, u42, u43, u44, u45, u46, u47, u48], defers := [] }) : J l at_ v w 0 a w :=
  ⟨rfl, .inl ⟨rfl, h, _, _, _, _, _, _, _, _, _, _, _, _, _, _, _, _, _, _, _, _, _, _, _, _, _, _, _, _, _, _, _, _, _, _, _, _, _, _, _, _, _, _, _, _, _, _, _, _, _, ha⟩⟩
theorem J.more {l : List UInt8} {at_ k m : Nat} {v : Value} {w : World} {a : Act} (h : Inv l at_ k m) (hk1 : 1 ≤ k) {zat zm zs : Int} {u9 u10 u11 u12 u13 u14 u15 u16 u17 u18 u19 u20 u21 u22 u23 u24 u25 u26 u27 u28 u29 u30 u31 u32 u33 u34 u35 u36 u37 u38 u39 u40 u41 u42 u43 u44 u45 u46 u47 u48 : Value} (ha : a = { tmps := #[v, .int .i64 zat, undef, undef, .int .u64 0, .int .i64 0, .bool false, .int .u64 zm, .int .u64 zs, u9, u10, u11, u12, u13, u14, u15, u16, u17, u18, u19, u20, u21, u22, u23, u24, u25, u26, u27, u28, u29, u30, u31, u32, u33, u34, u35, u36, u37, u38, u39, u40, u41, u42, u43, u44, u45, u46, u47, u48], defers := [] })
    (h1 : zat = ((at_ + k : Nat) : Int)) (h2 : zm = (m : Int)) (h3 : zs = ((7 * k : Nat) : Int)) : J l at_ v w 1 a w :=
  ⟨rfl, .inr (.inl ⟨rfl, k, m, zat, zm, zs, h, hk1, h1, h2, h3, _, _, _, _, _, _, _, _, _, _, _, _, _, _, _, _, _, _, _, _, _, _, _, _, _, _, _, _, _, _, _, _, _, _, _, _, _, _, _, _, ha⟩)⟩
theorem J.last {l : List UInt8} {at_ n m : Nat} {v : Value} {w : World} {a : Act} (h : rd 0 (l.drop at_) = some (m, n)) {zat zm : Int} {u0 u2 u3 u4 u5 u6 u8 u9 u10 u11 u12 u13 u14 u15 u16 u17 u18 u19 u20 u21 u22 u23 u24 u25 u26 u27 u28 u29 u30 u31 u32 u33 u34 u35 u36 u37 u38 u39 u40 u41 u42 u43 u44 u45 u46 u47 u48 : Value} (ha : a = { tmps := #[u0, .int .i64 zat, u2, u3, u4, u5, u6, .int .u64 zm, u8, u9, u10, u11, u12, u13, u14, u15, u16, u17, u18, u19, u20, u21, u22, u23, u24, u25, u26, u27, u28, u29, u30, u31, u32, u33, u34, u35, u36, u37, u38, u39, u40, u41, u42, u43, u44, u45, u46, u47, u48], defers := [] })
    (h1 : zat = ((at_ + n : Nat) : Int)) (h2 : zm = (m : Int)) : J l at_ v w 2 a w :=
  ⟨rfl, .inr (.inr ⟨rfl, n, m, zat, zm, h, h1, h2, _, _, _, _, _, _, _, _, _, _, _, _, _, _, _, _, _, _, _, _, _, _, _, _, _, _, _, _, _, _, _, _, _, _, _, _, _, _, _, _, _, _, _, _, _, _, _, ha⟩)⟩

/-- From the label 1 on every pass lowers this. -/
def mu (lab : Nat) (a : Act) (_ : World) : Nat := if lab = 1 then 1 + (1000 - (intOf (a.tmps.getD 8 undef)).toNat) else 0

theorem orStep (k m : Nat) (c : UInt8) (hk : k ≤ 9) (hm : m < 2 ^ (7 * k)) (hc : k = 9 → c.toNat ≤ 1) :
    bits .or .u64 (m : Int) (IntKind.u64.wrap ((c.toNat : Int) % 128 * 2 ^ (7 * k))) = ((m + 2 ^ (7 * k) * (c.toNat % 128) : Nat) : Int) := by
  have hc8 : c.toNat < 256 := c.toNat_lt
  obtain ⟨t, ht⟩ : ∃ t, t = 2 ^ (7 * k) := ⟨_, rfl⟩
  have e : (2 : Int) ^ (7 * k) = (t : Int) := by rw [ht]; simp
  have hb : t ≤ 9223372036854775808 ∧ t * (c.toNat % 128) < 18446744073709551616 := by
    by_cases h9 : k = 9
    · subst h9
      have h1 := hc rfl
      have : t = 9223372036854775808 := ht
      subst this
      exact ⟨by omega, by omega⟩
    · have : t ≤ 2 ^ 56 := by rw [ht]; exact Nat.pow_le_pow_right (by decide) (by omega)
      have h2 : t ≤ 72057594037927936 := this
      have := Nat.mul_le_mul h2 (show c.toNat % 128 ≤ 127 by omega)
      exact ⟨by omega, by omega⟩
  rw [e, ← ht]
  rw [← ht] at hm
  obtain ⟨P, hP⟩ : ∃ P, P = t * (c.toNat % 128) := ⟨_, rfl⟩
  have e2 : (c.toNat : Int) % 128 * (t : Int) = (P : Int) := by
    rw [hP, Int.natCast_mul, Int.mul_comm]; rfl
  rw [e2, ← hP]
  rw [← hP] at hb
  have e3 : IntKind.u64.wrap (P : Int) = (P : Int) := by rw [put.wrap_u64]; omega
  rw [e3, u64_or _ _ (by omega) (by omega) (by omega) (by omega)]
  simp only [Int.toNat_natCast]
  rw [Nat.or_comm, nat_join (7 * k) P m (by rw [hP, ht]; exact Nat.mul_mod_right _ _) (by rw [← ht]; exact hm), Nat.add_comm]

theorem orStart (c : UInt8) : bits .or .u64 0 ((c.toNat : Int) % 128) = ((0 + 2 ^ (7 * 0) * (c.toNat % 128) : Nat) : Int) := by
  rw [u64_or _ _ (by omega) (by omega) (by omega) (by omega)]
  have e : ((0 : Int).toNat ||| ((c.toNat : Int) % 128).toNat) = c.toNat % 128 := by
    rw [show ((0 : Int)).toNat = 0 from rfl, Nat.zero_or]; omega
  rw [e]
  simp

theorem mu_down {lab : Nat} (h : lab ≠ 1) (a b : Act) (w w' : World) : mu lab a w < mu 1 b w' := by
  unfold mu
  rw [if_neg h, if_pos rfl]
  omega

set_option maxRecDepth 100000 in
theorem groups_any (v : Value) (l : List UInt8) (at_ : Nat) (w : World) (hR : Rd w v l) (ha : at_ ≤ 9223372036854775000) (hl : l.length ≤ 9223372036854775000) :
    Calls Try.prog 43 #[v, .int .i64 at_] w fun e w' => e = .returned (gv (rd 0 (l.drop at_)) at_) ∧ w = w' := by
  have HR := Lib.hid hR
  obtain ⟨a1, c1, rfl, k1, m1, -⟩ := hR
  unfold maxLen at m1
  go_enter Try.func43, Try.ntmps43
  go_wp2
  refine wp_scope_labels (J l at_ (.slice a1 l.length c1) w) mu ?_ ?_
  · have HI := Lib.hid (Inv.start l at_)
    by_cases hlt : at_ < l.length
    · obtain ⟨c, hc⟩ : ∃ c, l[at_]? = some c := ⟨_, List.getElem?_eq_getElem hlt⟩
      obtain ⟨a1', c1', e1, _, _, f1⟩ := HR.out
      simp only [Value.slice.injEq] at e1
      obtain ⟨rfl, _, rfl⟩ := e1
      obtain ⟨x, rfl, g⟩ := f1 _ c hc
      unfold B at g
      have HC := Lib.hid (show l[at_ + 0]? = some c from hc)
      clear hc f1
      have hc8 : c.toNat < 256 := c.toNat_lt
      have e7 := low7_8 c
      by_cases h128 : c.toNat < 128
      · go_wp2
        go_step3
        go_wp2
        go_step3
        refine J.last (HI.out.last HC.out (by omega) h128) rfl (by omega) ?_
        exact orStart c
      · go_wp2
        go_step3
        go_wp2
        go_step3
        refine J.more (HI.out.next HC.out (by omega) h128) (by omega) rfl (by omega) ?_ (by omega)
        exact orStart c
    · go_wp2
      go_step3
      go_wp2
      go_step3
      exact J.none (HI.out.ends (by omega)) rfl
  · rintro lab a w' ⟨rfl, ⟨rfl, hn, u0, u1, u2, u3, u4, u5, u6, u7, u8, u9, u10, u11, u12, u13, u14, u15, u16, u17, u18, u19, u20, u21, u22, u23, u24, u25, u26, u27, u28, u29, u30, u31, u32, u33, u34, u35, u36, u37, u38, u39, u40, u41, u42, u43, u44, u45, u46, u47, u48, rfl⟩ | ⟨rfl, k, m, zat, zm, zs, hI, hk1, h1, h2, h3, u9, u10, u11, u12, u13, u14, u15, u16, u17, u18, u19, u20, u21, u22, u23, u24, u25, u26, u27, u28, u29, u30, u31, u32, u33, u34, u35, u36, u37, u38, u39, u40, u41, u42, u43, u44, u45, u46, u47, u48, rfl⟩ | ⟨rfl, n, m, zat, zm, hI, h1, h2, u0, u2, u3, u4, u5, u6, u8, u9, u10, u11, u12, u13, u14, u15, u16, u17, u18, u19, u20, u21, u22, u23, u24, u25, u26, u27, u28, u29, u30, u31, u32, u33, u34, u35, u36, u37, u38, u39, u40, u41, u42, u43, u44, u45, u46, u47, u48, rfl⟩⟩
    · refine ⟨_, rfl, ?_⟩
      have HN := Lib.hid hn
      clear hn
      go_wp2
      simp only [toLabels]
      go_ret3
      exact ⟨by rw [HN.out]; rfl, rfl⟩
    · refine ⟨_, rfl, ?_⟩
      subst h1 h2 h3
      have hk9 := hI.1
      have HI := Lib.hid hI
      clear hI
      by_cases hlt : at_ + k < l.length
      · obtain ⟨c, hc⟩ : ∃ c, l[at_ + k]? = some c := ⟨_, List.getElem?_eq_getElem hlt⟩
        obtain ⟨a1', c1', e1, _, _, f1⟩ := HR.out
        simp only [Value.slice.injEq] at e1
        obtain ⟨rfl, _, rfl⟩ := e1
        obtain ⟨x, rfl, g⟩ := f1 _ c hc
        unfold B at g
        have HC := Lib.hid hc
        clear hc f1
        have hc8 : c.toNat < 256 := c.toNat_lt
        by_cases hk : k = 9
        · have h63 : (7 * (k : Int) == 63) = true := by simp; omega
          have hkp : 0 < 7 * (k : Int) := by omega
          have HK := Lib.hid hk
          clear hk
          by_cases hc0 : c.toNat = 0
          · have hq : ((c.toNat : Int) == 0) = true := by simp [hc0]
            have HC0 := Lib.hid hc0
            clear hc0
            go_wp2
            go_step3
            exact ⟨J.none (HI.out.bad HC.out (.inl ⟨by omega, HC0.out⟩)) rfl, mu_down (by omega) _ _ _ _⟩
          · have hq : ((c.toNat : Int) == 0) = false := by simp; omega
            have e7 := low7_8 c
            by_cases hc1 : 1 < c.toNat
            · go_wp2
              go_step3
              exact ⟨J.none (HI.out.bad HC.out (.inr ⟨HK.out, hc1⟩)) rfl, mu_down (by omega) _ _ _ _⟩
            · go_wp2
              go_step3
              refine ⟨J.last (HI.out.last HC.out (by have := HK.out; omega) (by omega)) rfl (by omega) ?_, mu_down (by omega) _ _ _ _⟩
              exact orStep k m c hk9 HI.out.2.1 (fun _ => by omega)
        · have hk63 : (7 * (k : Int) == 63) = false := by simp; omega
          have hkp : 0 < 7 * (k : Int) := by omega
          by_cases hc0 : c.toNat = 0
          · have hq : ((c.toNat : Int) == 0) = true := by simp [hc0]
            have HC0 := Lib.hid hc0
            clear hc0
            go_wp2
            go_step3
            exact ⟨J.none (HI.out.bad HC.out (.inl ⟨by omega, HC0.out⟩)) rfl, mu_down (by omega) _ _ _ _⟩
          · have hq : ((c.toNat : Int) == 0) = false := by simp; omega
            have e7 := low7_8 c
            by_cases h128 : c.toNat < 128
            · go_wp2
              go_step3
              refine ⟨J.last (HI.out.last HC.out (by omega) h128) rfl (by omega) ?_, mu_down (by omega) _ _ _ _⟩
              exact orStep k m c hk9 HI.out.2.1 (fun _ => by omega)
            · go_wp2
              go_step3
              refine ⟨J.more (HI.out.next HC.out (by omega) h128) (by omega) rfl (by omega) ?_ (by omega), ?_⟩
              · exact orStep k m c hk9 HI.out.2.1 (fun _ => by omega)
              · simp [mu, intOf]
                omega
      · go_wp2
        go_step3
        exact ⟨J.none (HI.out.ends (by omega)) rfl, mu_down (by omega) _ _ _ _⟩
    · refine ⟨_, rfl, ?_⟩
      subst h1 h2
      have HI := Lib.hid hI
      clear hI
      go_wp2
      simp only [toLabels]
      go_ret3
      exact ⟨by rw [HI.out]; rfl, rfl⟩
end Go.Proofs.Ytolgbnpginifkaa.groups
