/- Plain facts on float64: whole numbers below 2^53 are exact; their order, their sum with 1, their way back to ints; and when a float from 0 to 2^40 is whole. No program in sight. -/
import Derived.Laws.FloatArith
namespace Go.Proofs.Ytolgbnpginifkaa.flt

theorem log2_bounds {n : Nat} (h : 0 < n) : 2 ^ n.log2 ≤ n ∧ n < 2 ^ (n.log2 + 1) :=
  ⟨Nat.log2_self_le (by omega), Nat.lt_log2_self⟩

theorem kept_bounds {n : Nat} (h : 0 < n) (hb : n < 2 ^ 53) : n.log2 ≤ 52 ∧ 2 ^ 52 ≤ n * 2 ^ (52 - n.log2) ∧ n * 2 ^ (52 - n.log2) < 2 ^ 53 := by
  obtain ⟨h1, h2⟩ := log2_bounds h
  have hl : n.log2 ≤ 52 := by
    have := (Nat.log2_lt (by omega : n ≠ 0)).2 hb
    omega
  refine ⟨hl, ?_, ?_⟩
  · calc 2 ^ 52 = 2 ^ n.log2 * 2 ^ (52 - n.log2) := by rw [← Nat.pow_add]; congr 1; omega
      _ ≤ _ := Nat.mul_le_mul_right _ h1
  · calc n * 2 ^ (52 - n.log2) < 2 ^ (n.log2 + 1) * 2 ^ (52 - n.log2) := Nat.mul_lt_mul_of_pos_right h2 (Nat.two_pow_pos _)
      _ = 2 ^ 53 := by rw [← Nat.pow_add]; congr 1; omega

theorem cut_zero_drop (neg : Bool) (n : Nat) : Ieee.Toward.even.cut neg n 0 = n := by
  simp [Ieee.Toward.cut, Nat.mod_one]

theorem dbl_binade : Ieee.double.binade = 4503599627370496 := by decide +kernel
theorem dbl_inf : Ieee.double.infRung = 9218868437227405312 := by decide +kernel
theorem dbl_sign : Ieee.double.signWeight = 9223372036854775808 := by decide +kernel
theorem dbl_least : Ieee.double.leastPlace = -1074 := by decide +kernel
theorem dbl_frac : Ieee.double.fractionBits = 52 := rfl

theorem nearest_whole (neg : Bool) {n : Nat} (h : 0 < n) (hb : n < 2 ^ 53) :
    Ieee.double.nearest neg n 0 = Ieee.double.word neg ((n.log2 + 1022) * 4503599627370496 + n * 2 ^ (52 - n.log2)) := by
  obtain ⟨hl, k1, k2⟩ := kept_bounds h hb
  unfold Ieee.Format.nearest
  rw [if_neg (by omega)]
  have e1 : max (0 + (n.log2 : Int) - (Ieee.double.fractionBits : Int)) Ieee.double.leastPlace = (n.log2 : Int) - 52 := by
    rw [dbl_frac, dbl_least]; omega
  simp only [e1]
  have e2 : ((n.log2 : Int) - 52 - 0).toNat = 0 := by omega
  have e3 : ((0 : Int) - ((n.log2 : Int) - 52)).toNat = 52 - n.log2 := by omega
  have e4 : ((n.log2 : Int) - 52 - Ieee.double.leastPlace).toNat = n.log2 + 1022 := by
    rw [dbl_least]; omega
  rw [e2, e3, cut_zero_drop, Nat.shiftLeft_eq, e4, dbl_binade, dbl_inf]
  rw [Nat.min_eq_left (by omega)]

theorem read_word (l k : Nat) (hl : l ≤ 52) (k1 : 4503599627370496 ≤ k) (k2 : k < 9007199254740992) :
    Ieee.double.read ((l + 1022) * 4503599627370496 + k) = .number false k ((l : Int) - 52) := by
  unfold Ieee.Format.read
  simp only [dbl_binade, dbl_inf, dbl_sign, dbl_least]
  have d1 : ((l + 1022) * 4503599627370496 + k) / 9223372036854775808 = 0 := by omega
  have d2 : ((l + 1022) * 4503599627370496 + k) % 9223372036854775808 = (l + 1022) * 4503599627370496 + k := by omega
  have d3 : 4503599627370496 + ((l + 1022) * 4503599627370496 + k) % 4503599627370496 = k := by omega
  have d4 : ((l + 1022) * 4503599627370496 + k) / 4503599627370496 = l + 1023 := by omega
  rw [d1, d2, d3, d4, if_neg (by omega), if_pos (by omega)]
  have d5 : (-1074 : Int) + ((l + 1023 - 1 : Nat) : Int) = (l : Int) - 52 := by omega
  rw [d5]
  rfl

theorem read_whole {n : Nat} (h : 0 < n) (hb : n < 2 ^ 53) :
    Ieee.double.read ((n.log2 + 1022) * 4503599627370496 + n * 2 ^ (52 - n.log2)) = .number false (n * 2 ^ (52 - n.log2)) ((n.log2 : Int) - 52) := by
  obtain ⟨hl, k1, k2⟩ := kept_bounds h hb
  exact read_word _ _ hl k1 k2

/-- The float of a whole number. -/
abbrev F (n : Int) : Nat := floatOfInt .f64 n

theorem F_nat (n : Nat) : F (n : Int) = Ieee.double.nearest false n 0 := by
  show Ieee.double.write (.number (decide ((n : Int) < 0)) (n : Int).natAbs 0) = _
  have : decide ((n : Int) < 0) = false := by simp
  rw [this, Int.natAbs_natCast]
  rfl

/-- The least place, as a plain number behind a name. -/
def E : Nat := 1074
theorem E_val : E = 1074 := rfl
/-- What a datum stands for, in units of 2^-1074. -/
def V : Ieee.Datum → Option Int
  | .number s m i => if -1074 ≤ i then some (Ieee.signed s m (i + 1074).toNat) else none
  | _ => none

theorem V_F (n : Nat) (hb : n < 2 ^ 53) : V (Ieee.double.read (F n)) = some ((n * 2 ^ E : Nat) : Int) := by
  rw [F_nat]
  rcases Nat.eq_zero_or_pos n with rfl | h
  · simp only [Nat.zero_mul]; decide +kernel
  · obtain ⟨hl, _, _⟩ := kept_bounds h hb
    rw [nearest_whole false h hb]
    show V (Ieee.double.read _) = _
    rw [show Ieee.double.word false = id from rfl, id, read_whole h hb]
    simp only [V]
    rw [if_pos (by omega)]
    unfold Ieee.signed
    simp only [Bool.false_eq_true, if_false, Nat.shiftLeft_eq]
    rw [Nat.mul_assoc, ← Nat.pow_add]
    rw [show 52 - n.log2 + ((n.log2 : Int) - 52 + 1074).toNat = E from by rw [E_val]; omega]

theorem signed_scale (s : Bool) (m a b : Nat) : Ieee.signed s m (a + b) = Ieee.signed s m a * (2 ^ b : Nat) := by
  unfold Ieee.signed
  cases s <;> simp [Nat.shiftLeft_eq, Nat.pow_add, Int.natCast_mul, Int.mul_assoc, Int.neg_mul]

theorem compare_scale (x y : Int) (b : Nat) : compare (x * (2 ^ b : Nat)) (y * (2 ^ b : Nat)) = compare x y := by
  have hp : (0 : Int) < (2 ^ b : Nat) := by exact_mod_cast Nat.two_pow_pos b
  rcases Int.lt_trichotomy x y with h | h | h
  · rw [Int.compare_eq_lt.2 h, Int.compare_eq_lt.2 (Int.mul_lt_mul_of_pos_right h hp)]
  · subst h; simp
  · rw [Int.compare_eq_gt.2 h, Int.compare_eq_gt.2 (Int.mul_lt_mul_of_pos_right h hp)]

theorem order_V {d e : Ieee.Datum} {x y : Int} (hd : V d = some x) (he : V e = some y) : d.order e = some (compare x y) := by
  cases d with
  | infinity => simp [V] at hd
  | nan => simp [V] at hd
  | number s m i =>
    cases e with
    | infinity => simp [V] at he
    | nan => simp [V] at he
    | number t n j =>
      simp only [V] at hd he
      by_cases hi : -1074 ≤ i
      · by_cases hj : -1074 ≤ j
        · rw [if_pos hi] at hd
          rw [if_pos hj] at he
          cases hd
          cases he
          simp only [Ieee.Datum.order]
          have e1 : (i + 1074).toNat = (i - min i j).toNat + (min i j + 1074).toNat := by omega
          have e2 : (j + 1074).toNat = (j - min i j).toNat + (min i j + 1074).toNat := by omega
          rw [e1, e2, signed_scale, signed_scale, compare_scale]
        · rw [if_neg hj] at he; cases he
      · rw [if_neg hi] at hd; cases hd

theorem order_F (a b : Int) (ha : 0 ≤ a) (ha' : a < 2 ^ 53) (hb : 0 ≤ b) (hb' : b < 2 ^ 53) :
    FloatKind.f64.format.order (F a) (F b) = some (compare a b) := by
  obtain ⟨m, rfl⟩ := Int.eq_ofNat_of_zero_le ha
  obtain ⟨n, rfl⟩ := Int.eq_ofNat_of_zero_le hb
  have h := order_V (V_F m (by omega)) (V_F n (by omega))
  show (Ieee.double.read _).order (Ieee.double.read _) = _
  rw [h]
  have := compare_scale (m : Int) (n : Int) E
  rw [← this]
  simp

theorem pow_le_log {m drop : Nat} (h : ¬ drop ≤ m.log2 + 2) : m / 2 ^ (m.log2 + 2) = m / 2 ^ drop := by
  have h1 : m < 2 ^ (m.log2 + 1) := Nat.lt_log2_self
  rw [Nat.div_eq_of_lt (Nat.lt_of_lt_of_le h1 (Nat.pow_le_pow_right (by omega) (by omega))),
    Nat.div_eq_of_lt (Nat.lt_of_lt_of_le h1 (Nat.pow_le_pow_right (by omega) (by omega)))]

theorem cut_zero (neg : Bool) (m drop : Nat) : Ieee.Toward.zero.cut neg m drop = m / 2 ^ drop := by
  simp only [Ieee.Toward.cut, Bool.toNat_false, Nat.add_zero, Nat.shiftLeft_eq, Nat.one_mul]
  by_cases h : drop ≤ m.log2 + 2
  · rw [Nat.min_eq_left h]
  · rw [Nat.min_eq_right (by omega), pow_le_log h]

theorem integral_zero (s : Bool) (m : Nat) (i : Int) : (Ieee.Datum.number s m i).integral .zero = .number s (m * 2 ^ i.toNat / 2 ^ (-i).toNat) 0 := by
  simp only [Ieee.Datum.integral, cut_zero, Nat.shiftLeft_eq]

theorem toInt_F (n : Int) (h : 0 ≤ n) (hb : n < 9007199254740992) : floatToIntVal .f64 (F n) .i64 = some n := by
  obtain ⟨k, rfl⟩ := Int.eq_ofNat_of_zero_le h
  have e : (FloatKind.f64.decode (F (k : Int))).toInt .zero = some (k : Int) := by
    show (Ieee.double.read (F (k : Int))).toInt .zero = _
    rw [F_nat]
    rcases Nat.eq_zero_or_pos k with rfl | hk
    · decide +kernel
    · obtain ⟨hl, _, _⟩ := kept_bounds hk (by omega)
      rw [nearest_whole false hk (by omega), show Ieee.double.word false = id from rfl, id, read_whole hk (by omega)]
      unfold Ieee.Datum.toInt
      rw [integral_zero]
      have e1 : ((k.log2 : Int) - 52).toNat = 0 := by omega
      have e2 : (-((k.log2 : Int) - 52)).toNat = 52 - k.log2 := by omega
      rw [e1, e2, Nat.pow_zero, Nat.mul_one, Nat.mul_div_cancel _ (Nat.two_pow_pos _)]
      simp [Ieee.signed]
  unfold floatToIntVal
  rw [e]
  exact if_pos ⟨by show (-9223372036854775808 : Int) ≤ _; omega, by show _ ≤ (9223372036854775807 : Int); omega⟩

theorem log2_shift {m : Nat} (h : 0 < m) (k : Nat) : (m * 2 ^ k).log2 = m.log2 + k := by
  obtain ⟨h1, h2⟩ := log2_bounds h
  have hp := Nat.two_pow_pos k
  have hne : m * 2 ^ k ≠ 0 := by
    have := Nat.mul_pos h hp
    omega
  have a : m.log2 + k ≤ (m * 2 ^ k).log2 := (Nat.le_log2 hne).2 (by rw [Nat.pow_add]; exact Nat.mul_le_mul_right _ h1)
  have b : (m * 2 ^ k).log2 < m.log2 + k + 1 := (Nat.log2_lt hne).2 (by
    rw [show m.log2 + k + 1 = (m.log2 + 1) + k from by omega, Nat.pow_add]
    exact Nat.mul_lt_mul_of_pos_right h2 hp)
  omega

theorem nearest_units {n : Nat} (h : 0 < n) (hb : n < 2 ^ 53) : Ieee.double.nearest false (n * 4503599627370496) (-52) = Ieee.double.nearest false n 0 := by
  rw [nearest_whole false h hb]
  obtain ⟨hl, k1, k2⟩ := kept_bounds h hb
  have hlog : (n * 4503599627370496).log2 = n.log2 + 52 := log2_shift h 52
  unfold Ieee.Format.nearest
  rw [if_neg (by omega)]
  have e1 : max (-52 + ((n * 4503599627370496).log2 : Int) - (Ieee.double.fractionBits : Int)) Ieee.double.leastPlace = (n.log2 : Int) - 52 := by
    rw [hlog, dbl_frac, dbl_least]; omega
  simp only [e1]
  have e2 : ((-52 : Int) - ((n.log2 : Int) - 52)).toNat = 0 := by omega
  have e3 : ((n.log2 : Int) - 52 - -52).toNat = n.log2 := by omega
  have e4 : ((n.log2 : Int) - 52 - Ieee.double.leastPlace).toNat = n.log2 + 1022 := by
    rw [dbl_least]; omega
  rw [e2, e3, e4, dbl_binade, dbl_inf, Nat.shiftLeft_zero]
  have hc : Ieee.Toward.even.cut false (n * 4503599627370496) n.log2 = n * 2 ^ (52 - n.log2) := by
    have hs : n * 4503599627370496 = n * 2 ^ (52 - n.log2) * 2 ^ n.log2 := by
      rw [Nat.mul_assoc, ← Nat.pow_add, show 52 - n.log2 + n.log2 = 52 from by omega]
    have hd : n * 4503599627370496 / 2 ^ n.log2 = n * 2 ^ (52 - n.log2) := by
      rw [hs, Nat.mul_div_cancel _ (Nat.two_pow_pos _)]
    have hm : n * 4503599627370496 % 2 ^ n.log2 = 0 := by
      rw [hs, Nat.mul_mod_left]
    simp only [Ieee.Toward.cut, Nat.shiftLeft_eq, Nat.one_mul]
    rw [Nat.min_eq_left (by omega), hd, hm]
    simp
  rw [hc, Nat.min_eq_left (by omega)]

theorem one_bits : F 1 = 4607182418800017408 := by decide +kernel

theorem add_F (n : Int) (h : 0 ≤ n) (hb : n < 9007199254740991) : floatBits .add .f64 (F n) 4607182418800017408 = some (F (n + 1)) := by
  obtain ⟨k, rfl⟩ := Int.eq_ofNat_of_zero_le h
  rcases Nat.eq_zero_or_pos k with rfl | hk
  · decide +kernel
  · obtain ⟨hl, _, _⟩ := kept_bounds hk (by omega)
    show ((Ieee.double.read (F (k : Int))).sum (Ieee.double.read 4607182418800017408)).map Ieee.double.write = _
    have e1 : Ieee.double.read 4607182418800017408 = .number false 4503599627370496 (-52) := by decide +kernel
    rw [e1, F_nat, nearest_whole false hk (by omega), show Ieee.double.word false = id from rfl, id, read_whole hk (by omega)]
    simp only [Ieee.Datum.sum]
    have e2 : min ((k.log2 : Int) - 52) (-52) = -52 := by omega
    rw [e2]
    have e3 : ((k.log2 : Int) - 52 - -52).toNat = k.log2 := by omega
    have e4 : ((-52 : Int) - -52).toNat = 0 := by omega
    rw [e3, e4]
    have e5 : Ieee.signed false (k * 2 ^ (52 - k.log2)) k.log2 + Ieee.signed false 4503599627370496 0 = (((k + 1) * 4503599627370496 : Nat) : Int) := by
      simp only [Ieee.signed, Bool.false_eq_true, if_false, Nat.shiftLeft_eq, Nat.mul_assoc, ← Nat.pow_add]
      rw [show 52 - k.log2 + k.log2 = 52 from by omega]
      omega
    rw [e5, if_neg (by omega), Int.natAbs_natCast]
    have e6 : decide ((((k + 1) * 4503599627370496 : Nat) : Int) < 0) = false := by simp; omega
    rw [e6, Option.map_some]
    show some (Ieee.double.nearest false ((k + 1) * 4503599627370496) (-52)) = _
    rw [nearest_units (by omega) (by omega), show (k : Int) + 1 = ((k + 1 : Nat) : Int) from by omega, F_nat]

/-! ### When a float is whole -/
theorem read_place {b : Nat} {s : Bool} {m : Nat} {i : Int} (h : Ieee.double.read b = .number s m i) : -1074 ≤ i := by
  unfold Ieee.Format.read at h
  simp only [dbl_least] at h
  split at h
  · cases h; omega
  · split at h
    · cases h; omega
    · split at h <;> cases h

/-- What math.Trunc gives of a float that is no NaN. -/
def truncBits (b : Nat) : Nat := FloatKind.f64.encode ((FloatKind.f64.decode b).integral .zero)

/-- x >= 0 and x <= 2^40, as the program asks them. -/
def geB (a b : Nat) : Bool := FloatKind.f64.format.order a b == some .gt || FloatKind.f64.format.order a b == some .eq
def leB (a b : Nat) : Bool := FloatKind.f64.format.order a b == some .lt || FloatKind.f64.format.order a b == some .eq
def eqB (a b : Nat) : Bool := FloatKind.f64.format.order a b == some .eq
def gate (b : Nat) : Bool := geB b 0 && leB b 4787326403894837248

theorem most_bits : F 1099511627776 = 4787326403894837248 := by decide +kernel
theorem zero_bits : F 0 = 0 := by decide +kernel

theorem V_zero : V (Ieee.double.read 0) = some 0 := by decide +kernel
theorem V_negzero : V (Ieee.double.read (2 ^ 63)) = some 0 := by decide +kernel
theorem V_most : V (Ieee.double.read 4787326403894837248) = some ((1099511627776 * 2 ^ E : Nat) : Int) := by
  rw [← most_bits]; exact V_F 1099511627776 (by omega)

theorem whole_exact (b : Nat) (hg : gate b = true) : ∃ T : Nat, T ≤ 1099511627776 ∧ floatToIntVal .f64 b .i64 = some (T : Int) ∧
    eqB (truncBits b) b = eqB (F T) b ∧ ∃ s m i, FloatKind.f64.decode b = .number s m i := by
  unfold gate geB leB at hg
  cases hr : Ieee.double.read b with
  | nan s t =>
    simp [Ieee.Format.order, FloatKind.format, hr, Ieee.Datum.order] at hg
  | infinity s =>
    have e0 : Ieee.double.read 0 = .number false 0 (-1074) := by decide +kernel
    have e1 : Ieee.double.read 4787326403894837248 = .number false 4503599627370496 (-12) := by decide +kernel
    cases s <;> simp [Ieee.Format.order, FloatKind.format, hr, Ieee.Datum.order, e0, e1] at hg
  | number s m i =>
    have hi := read_place hr
    have hV : V (Ieee.double.read b) = some (Ieee.signed s m (i + 1074).toNat) := by rw [hr]; simp [V, hi]
    have o0 : FloatKind.f64.format.order b 0 = some (compare (Ieee.signed s m (i + 1074).toNat) 0) := order_V hV V_zero
    have o1 : FloatKind.f64.format.order b 4787326403894837248 = some (compare (Ieee.signed s m (i + 1074).toNat) ((1099511627776 * 2 ^ E : Nat) : Int)) := order_V hV V_most
    rw [o0, o1] at hg
    have g0 : 0 ≤ Ieee.signed s m (i + 1074).toNat := by
      by_cases h : Ieee.signed s m (i + 1074).toNat < 0
      · rw [Int.compare_eq_lt.2 h] at hg; simp at hg
      · omega
    have g1 : Ieee.signed s m (i + 1074).toNat ≤ ((1099511627776 * 2 ^ E : Nat) : Int) := by
      by_cases h : ((1099511627776 * 2 ^ E : Nat) : Int) < Ieee.signed s m (i + 1074).toNat
      · rw [Int.compare_eq_gt.2 h] at hg; simp at hg
      · omega
    have dec : FloatKind.f64.decode b = .number s m i := hr
    -- the whole part
    have key : m * 2 ^ i.toNat / 2 ^ (-i).toNat ≤ 1099511627776 ∧ (s = true → m = 0) := by
      cases s with
      | true =>
        have : m = 0 := by
          simp only [Ieee.signed, if_true, Nat.shiftLeft_eq] at g0
          have h2 := Nat.two_pow_pos (i + 1074).toNat
          rcases Nat.eq_zero_or_pos m with h | h
          · exact h
          · have := Nat.mul_pos h h2
            omega
        subst this
        exact ⟨by simp, fun _ => rfl⟩
      | false =>
        refine ⟨?_, fun h => by cases h⟩
        simp only [Ieee.signed, Bool.false_eq_true, if_false, Nat.shiftLeft_eq] at g1
        have g2 : m * 2 ^ (i + 1074).toNat ≤ 1099511627776 * 2 ^ E := Int.ofNat_le.1 g1
        by_cases hneg : i < 0
        · have e1 : i.toNat = 0 := by omega
          have e2 : E = (-i).toNat + (i + 1074).toNat := by rw [E_val]; omega
          rw [e1, Nat.pow_zero, Nat.mul_one]
          rw [e2, Nat.pow_add, ← Nat.mul_assoc] at g2
          have g3 : m ≤ 1099511627776 * 2 ^ (-i).toNat := Nat.le_of_mul_le_mul_right g2 (Nat.two_pow_pos _)
          exact Nat.div_le_of_le_mul (by rw [Nat.mul_comm]; exact g3)
        · have e1 : (-i).toNat = 0 := by omega
          have e2 : (i + 1074).toNat = i.toNat + E := by rw [E_val]; omega
          rw [e1, Nat.pow_zero, Nat.div_one]
          rw [e2, Nat.pow_add, ← Nat.mul_assoc] at g2
          exact Nat.le_of_mul_le_mul_right g2 (Nat.two_pow_pos _)
    obtain ⟨kle, ks⟩ := key
    refine ⟨m * 2 ^ i.toNat / 2 ^ (-i).toNat, kle, ?_, ?_, s, m, i, dec⟩
    · have es : Ieee.signed s (m * 2 ^ i.toNat / 2 ^ (-i).toNat) 0 = ((m * 2 ^ i.toNat / 2 ^ (-i).toNat : Nat) : Int) := by
        cases s with
        | false => simp [Ieee.signed]
        | true => rw [ks rfl]; simp [Ieee.signed]
      have et : (FloatKind.f64.decode b).toInt .zero = some ((m * 2 ^ i.toNat / 2 ^ (-i).toNat : Nat) : Int) := by
        rw [dec]
        unfold Ieee.Datum.toInt
        rw [integral_zero]
        simp only [es]
      unfold floatToIntVal
      rw [et]
      generalize m * 2 ^ i.toNat / 2 ^ (-i).toNat = T at kle
      exact if_pos ⟨by show (-9223372036854775808 : Int) ≤ _; omega, by show _ ≤ (9223372036854775807 : Int); omega⟩
    · unfold eqB truncBits
      rw [dec, integral_zero]
      generalize hT : m * 2 ^ i.toNat / 2 ^ (-i).toNat = T at *
      have hVT : V (Ieee.double.read (F T)) = some ((T * 2 ^ E : Nat) : Int) := V_F T (by omega)
      have oT : FloatKind.f64.format.order (F T) b = some (compare ((T * 2 ^ E : Nat) : Int) (Ieee.signed s m (i + 1074).toNat)) := order_V hVT hV
      cases s with
      | false =>
        have : FloatKind.f64.encode (.number false T 0) = F T := by rw [F_nat]; rfl
        rw [this]
      | true =>
        have hm := ks rfl
        subst hm
        have hT0 : T = 0 := by rw [← hT]; simp
        subst hT0
        have e1 : FloatKind.f64.encode (.number true 0 0) = 2 ^ 63 := by decide +kernel
        have oN : FloatKind.f64.format.order (2 ^ 63) b = some (compare 0 (Ieee.signed true 0 (i + 1074).toNat)) := order_V V_negzero hV
        rw [e1, oN, oT]
        simp

end Go.Proofs.Ytolgbnpginifkaa.flt
