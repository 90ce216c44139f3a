/- The contracts of the functions of lockgate/ver and lockgateref01: what each answers, the world left as it is. -/
import Derived.Test.YtcmmmacndedikaaRows
import Derived.Test.YtcmmmacndedikaaFloat
import Derived.WalkKit
import Derived.ProofKit
import Derived.WalkLawsBesides
import Derived.Lib.Hide
import Derived.Outline
namespace Go.Proofs.Ytcmmmacndedikaa.ver
open Go.ChangeShapes Go.WideShapes Go.ChangeAt Go.RowKit flt

def fitsB (n : Int) : Bool := decide (0 ≤ n) && decide (n ≤ 1099511627776)
theorem ret_bool {a b : Bool} (h : a = b) : Ending.returned (.bool a) = .returned (.bool b) := by rw [h]
theorem ret_int {a b : Int} (h : a = b) : Ending.returned (.int .i64 a) = .returned (.int .i64 b) := by rw [h]

theorem fits_any (n : Int) (w : World) :
    Calls Try.prog 15 #[.int .i64 n] w fun e w' => e = .returned (.bool (fitsB n)) ∧ w = w' := by
  by_cases h : 0 ≤ n
  · go_enter Try.func15, Try.ntmps15
    go_wp2
    go_ret
    exact ⟨ret_bool (by simp [fitsB, h]), rfl⟩
  · go_enter Try.func15, Try.ntmps15
    go_wp2
    go_ret
    exact ⟨ret_bool (by simp only [fitsB]; rw [decide_eq_false (by omega)]; rfl), rfl⟩

theorem make_any (e n : Int) (w : World) :
    Calls Try.prog 17 #[.int .i64 e, .int .i64 n] w fun r w' => r = .returned (.complex .f64 (F e) (F n)) ∧ w = w' := by
  go_enter Try.func17, Try.ntmps17
  go_wp2
  go_ret
  exact ⟨rfl, rfl⟩

theorem rmake_any (e n : Int) (w : World) :
    Calls Try.prog 18 #[.int .i64 e, .int .i64 n] w fun r w' => r = .returned (.complex .f64 (F e) (F n)) ∧ w = w' := by
  go_enter Try.func18, Try.ntmps18
  go_wp2
  go_ret
  exact ⟨rfl, rfl⟩

theorem conv_fi (b : Nat) (n : Int) (h : floatToIntVal .f64 b .i64 = some n) (w : World) :
    (convert 34 3 (.float .f64 b)).run Try.prog w = .ok (.int .i64 n) w :=
  run_convert_float_int (P := Try.prog) w 34 3 .f64 .i64 b n (by rw [Try.underlying34]; rfl) Try.underlying3 h

theorem epoch_any (a b : Nat) (n : Int) (h : floatToIntVal .f64 a .i64 = some n) (w : World) :
    Calls Try.prog 19 #[.complex .f64 a b] w fun r w' => r = .returned (.int .i64 n) ∧ w = w' := by
  have hc := conv_fi a n h
  have H := Lib.hid h
  clear h
  go_enter Try.func19, Try.ntmps19
  go_wp2
  go_ret
  exact ⟨rfl, rfl⟩

theorem num_any (a b : Nat) (n : Int) (h : floatToIntVal .f64 b .i64 = some n) (w : World) :
    Calls Try.prog 20 #[.complex .f64 a b] w fun r w' => r = .returned (.int .i64 n) ∧ w = w' := by
  have hc := conv_fi b n h
  have H := Lib.hid h
  clear h
  go_enter Try.func20, Try.ntmps20
  go_wp2
  go_ret
  exact ⟨rfl, rfl⟩

theorem repoch_any (a b : Nat) (n : Int) (h : floatToIntVal .f64 a .i64 = some n) (w : World) :
    Calls Try.prog 29 #[.complex .f64 a b] w fun r w' => r = .returned (.int .i64 n) ∧ w = w' := by
  have hc := conv_fi a n h
  have H := Lib.hid h
  clear h
  go_enter Try.func29, Try.ntmps29
  go_wp2
  go_ret
  exact ⟨rfl, rfl⟩

theorem rnum_any (a b : Nat) (n : Int) (h : floatToIntVal .f64 b .i64 = some n) (w : World) :
    Calls Try.prog 30 #[.complex .f64 a b] w fun r w' => r = .returned (.int .i64 n) ∧ w = w' := by
  have hc := conv_fi b n h
  have H := Lib.hid h
  clear h
  go_enter Try.func30, Try.ntmps30
  go_wp2
  go_ret
  exact ⟨rfl, rfl⟩

def ltB (a b : Nat) : Bool := FloatKind.f64.format.order a b == some .lt
def aheadB (a b c d : Nat) : Bool := if eqB a c then ltB b d else ltB a c

theorem ahead_ne {a b c d : Nat} (h : (FloatKind.f64.format.order a c != some Ordering.eq) = true) : (FloatKind.f64.format.order a c == some Ordering.lt) = aheadB a b c d := by
  have h' : eqB a c = false := by simpa [eqB] using h
  simp [aheadB, h', ltB]
theorem ahead_eq {a b c d : Nat} (h : (FloatKind.f64.format.order a c != some Ordering.eq) = false) : (FloatKind.f64.format.order b d == some Ordering.lt) = aheadB a b c d := by
  have h' : eqB a c = true := by simpa [eqB] using h
  simp [aheadB, h', ltB]

theorem ahead_any (a b c d : Nat) (w : World) :
    Calls Try.prog 23 #[.complex .f64 a b, .complex .f64 c d] w fun r w' => r = .returned (.bool (aheadB a b c d)) ∧ w = w' := by
  go_enter Try.func23, Try.ntmps23
  go_wp2
  · have h : (FloatKind.f64.format.order a c != some Ordering.eq) = true := by assumption
    go_ret
    exact ⟨ret_bool (ahead_ne h), rfl⟩
  · have h : (FloatKind.f64.format.order a c != some Ordering.eq) = false := by assumption
    go_ret
    exact ⟨ret_bool (ahead_eq h), rfl⟩

theorem later_any (a b c d : Nat) (w : World) :
    Calls Try.prog 25 #[.complex .f64 a b, .complex .f64 c d] w fun r w' => r = .returned (if aheadB c d a b then .complex .f64 a b else .complex .f64 c d) ∧ w = w' := by
  cases hb : aheadB c d a b
  all_goals
    have H := Lib.hid hb
    clear hb
    go_enter Try.func25, Try.ntmps25
    go_wp2_with fail
    refine (ahead_any _ _ _ _ _).mono ?_
    rintro r w' ⟨rfl, rfl⟩
    rw [H.out]
    go_wp2
    go_ret
    exact ⟨rfl, rfl⟩

def raheadB (a b c d : Int) : Bool := if a = c then decide (b < d) else decide (a < c)

theorem rahead_any (a b c d : Nat) (a' b' c' d' : Int) (ha : floatToIntVal .f64 a .i64 = some a') (hb : floatToIntVal .f64 b .i64 = some b')
    (hc : floatToIntVal .f64 c .i64 = some c') (hd : floatToIntVal .f64 d .i64 = some d') (w : World) :
    Calls Try.prog 24 #[.complex .f64 a b, .complex .f64 c d] w fun r w' => r = .returned (.bool (raheadB a' b' c' d')) ∧ w = w' := by
  have HA := Lib.hid ha
  have HB := Lib.hid hb
  have HC := Lib.hid hc
  have HD := Lib.hid hd
  clear ha hb hc hd
  go_enter Try.func24, Try.ntmps24
  go_wp2_with fail
  refine (repoch_any _ _ _ HA.out _).mono ?_
  rintro r w' ⟨rfl, rfl⟩
  go_wp2_with fail
  refine (repoch_any _ _ _ HC.out _).mono ?_
  rintro r w' ⟨rfl, rfl⟩
  go_wp2_with fail
  · refine (rnum_any _ _ _ HB.out _).mono ?_
    rintro r w' ⟨rfl, rfl⟩
    go_wp2_with fail
    refine (rnum_any _ _ _ HD.out _).mono ?_
    rintro r w' ⟨rfl, rfl⟩
    go_wp2_with fail
    have h : (a' == c') = true := by assumption
    go_ret
    exact ⟨ret_bool (by rw [raheadB, if_pos (beq_iff_eq.1 h)]), rfl⟩
  · refine (repoch_any _ _ _ HA.out _).mono ?_
    rintro r w' ⟨rfl, rfl⟩
    go_wp2_with fail
    refine (repoch_any _ _ _ HC.out _).mono ?_
    rintro r w' ⟨rfl, rfl⟩
    go_wp2_with fail
    have h : (a' == c') = false := by assumption
    go_ret
    exact ⟨ret_bool (by rw [raheadB, if_neg (beq_eq_false_iff_ne.1 h)]), rfl⟩

theorem next_any (a b : Nat) (e : Int) (r : Nat) (h : floatBits .add .f64 b 4607182418800017408 = some r) (w : World) :
    Calls Try.prog 27 #[.complex .f64 a b, .int .i64 e] w fun x w' => x = .returned (.complex .f64 (F e) r) ∧ w = w' := by
  have hadd := fun (w : World) => run_float_arith (P := Try.prog) w .add 34 .f64 b 4607182418800017408 r h
  have H := Lib.hid h
  clear h
  go_enter Try.func27, Try.ntmps27
  go_wp2
  go_ret
  exact ⟨rfl, rfl⟩

theorem rlater_any (a b c d : Nat) (a' b' c' d' : Int) (ha : floatToIntVal .f64 a .i64 = some a') (hb : floatToIntVal .f64 b .i64 = some b')
    (hc : floatToIntVal .f64 c .i64 = some c') (hd : floatToIntVal .f64 d .i64 = some d') (w : World) :
    Calls Try.prog 26 #[.complex .f64 a b, .complex .f64 c d] w fun r w' => r = .returned (if raheadB a' b' c' d' then .complex .f64 c d else .complex .f64 a b) ∧ w = w' := by
  have HA := Lib.hid ha
  have HB := Lib.hid hb
  have HC := Lib.hid hc
  have HD := Lib.hid hd
  clear ha hb hc hd
  cases h : raheadB a' b' c' d'
  all_goals
    have H := Lib.hid h
    clear h
    go_enter Try.func26, Try.ntmps26
    go_wp2_with fail
    refine (rahead_any _ _ _ _ _ _ _ _ HA.out HB.out HC.out HD.out _).mono ?_
    rintro r w' ⟨rfl, rfl⟩
    rw [H.out]
    go_wp2
    go_ret
    exact ⟨rfl, rfl⟩

theorem run_archTrunc (x : Nat) (s : Bool) (m : Nat) (i : Int) (h : FloatKind.f64.decode x = .number s m i) (w : World) :
    (Extern.MathFloor.toIntegral "math.archTrunc" .zero #[.float .f64 x]).run Try.prog w = .ok (.float .f64 (truncBits x)) w := by
  change Sem.run Try.prog (match FloatKind.f64.decode x with
    | .nan _ _ => _
    | d => pure (Value.float .f64 (FloatKind.f64.encode (d.integral .zero))) : Sem Value) w = _
  unfold truncBits
  rw [h]
  rfl

theorem trunc_any (x : Nat) (s : Bool) (m : Nat) (i : Int) (h : FloatKind.f64.decode x = .number s m i) (w : World) :
    Calls Try.prog 31 #[.float .f64 x] w fun r w' => r = .returned (.float .f64 (truncBits x)) ∧ w = w' := by
  have HR : ∀ w : World, (callFunc 32 #[.float .f64 x]).run Try.prog w = .ok (.value (.float .f64 (truncBits x))) w := fun w => by
    rw [run_callFunc_extern Try.func32 (by kernel_rfl) (by kernel_rfl) (by kernel_rfl) (e := Extern.MathFloor.toIntegral "math.archTrunc" .zero) (by kernel_rfl), run_archTrunc x s m i h]
    rfl
  have H := Lib.hid h
  clear h
  go_enter Try.func31, Try.ntmps31
  go_wp2
  go_ret
  exact ⟨rfl, rfl⟩

def wholeB (x : Nat) : Bool := gate x && eqB (truncBits x) x

theorem whole_any (x : Nat) (w : World) :
    Calls Try.prog 28 #[.float .f64 x] w fun r w' => r = .returned (.bool (wholeB x)) ∧ w = w' := by
  cases h1 : geB x 0
  · have k1 : (FloatKind.f64.format.order x 0 == some .gt || FloatKind.f64.format.order x 0 == some .eq) = false := h1
    have hw : wholeB x = false := by simp [wholeB, gate, h1]
    have HW := Lib.hid hw
    clear hw h1
    go_enter Try.func28, Try.ntmps28
    go_wp2
    go_ret
    exact ⟨ret_bool HW.out.symm, rfl⟩
  · have k1 : (FloatKind.f64.format.order x 0 == some .gt || FloatKind.f64.format.order x 0 == some .eq) = true := h1
    cases h2 : leB x 4787326403894837248
    · have k2 : (FloatKind.f64.format.order x 4787326403894837248 == some .lt || FloatKind.f64.format.order x 4787326403894837248 == some .eq) = false := h2
      have hw : wholeB x = false := by simp [wholeB, gate, h1, h2]
      have HW := Lib.hid hw
      clear hw h1 h2
      go_enter Try.func28, Try.ntmps28
      go_wp2
      go_ret
      exact ⟨ret_bool HW.out.symm, rfl⟩
    · have k2 : (FloatKind.f64.format.order x 4787326403894837248 == some .lt || FloatKind.f64.format.order x 4787326403894837248 == some .eq) = true := h2
      have hw : wholeB x = (FloatKind.f64.format.order (truncBits x) x == some .eq) := by simp [wholeB, gate, h1, h2, eqB]
      obtain ⟨T, _, _, _, s, m, i, hd⟩ := whole_exact x (by simp [gate, h1, h2])
      have HW := Lib.hid hw
      have HD := Lib.hid hd
      clear hw h1 h2 hd
      go_enter Try.func28, Try.ntmps28
      go_wp2_with fail
      refine (trunc_any _ _ _ _ HD.out _).mono ?_
      rintro r w' ⟨rfl, rfl⟩
      go_wp2_with fail
      go_ret
      exact ⟨ret_bool HW.out.symm, rfl⟩

theorem right_any (a b : Nat) (w : World) :
    Calls Try.prog 21 #[.complex .f64 a b] w fun r w' => r = .returned (.bool (wholeB a && wholeB b)) ∧ w = w' := by
  cases h1 : wholeB a
  · have H := Lib.hid h1
    clear h1
    go_enter Try.func21, Try.ntmps21
    go_wp2_with fail
    refine (whole_any _ _).mono ?_
    rintro r w' ⟨rfl, rfl⟩
    rw [H.out]
    go_wp2_with fail
    go_ret
    exact ⟨rfl, rfl⟩
  · have H := Lib.hid h1
    clear h1
    go_enter Try.func21, Try.ntmps21
    go_wp2_with fail
    refine (whole_any _ _).mono ?_
    rintro r w' ⟨rfl, rfl⟩
    rw [H.out]
    go_wp2_with fail
    refine (whole_any _ _).mono ?_
    rintro r w' ⟨rfl, rfl⟩
    go_wp2_with fail
    go_ret
    exact ⟨ret_bool (by simp), rfl⟩

/-- What both say of a complex number. -/
theorem rright_any (a b : Nat) (w : World) :
    Calls Try.prog 22 #[.complex .f64 a b] w fun r w' => r = .returned (.bool (wholeB a && wholeB b)) ∧ w = w' := by
  cases hg : gate a && gate b
  · have hb : (wholeB a && wholeB b) = false := by
      cases h : gate a
      · simp [wholeB, h]
      · have : gate b = false := by simpa [h] using hg
        simp [wholeB, this]
    have HB := Lib.hid hb
    clear hb
    simp only [gate, geB, leB] at hg
    cases a1 : (FloatKind.f64.format.order a 0 == some .gt || FloatKind.f64.format.order a 0 == some .eq)
    · clear hg
      go_enter Try.func22, Try.ntmps22
      go_wp2
      go_ret
      exact ⟨ret_bool HB.out.symm, rfl⟩
    · cases a2 : (FloatKind.f64.format.order a 4787326403894837248 == some .lt || FloatKind.f64.format.order a 4787326403894837248 == some .eq)
      · clear hg
        go_enter Try.func22, Try.ntmps22
        go_wp2
        go_ret
        exact ⟨ret_bool HB.out.symm, rfl⟩
      · cases b1 : (FloatKind.f64.format.order b 0 == some .gt || FloatKind.f64.format.order b 0 == some .eq)
        · clear hg
          go_enter Try.func22, Try.ntmps22
          go_wp2
          go_ret
          exact ⟨ret_bool HB.out.symm, rfl⟩
        · have b2 : (FloatKind.f64.format.order b 4787326403894837248 == some .lt || FloatKind.f64.format.order b 4787326403894837248 == some .eq) = false := by
            rw [a1, a2, b1] at hg
            simpa using hg
          clear hg
          go_enter Try.func22, Try.ntmps22
          go_wp2
          go_ret
          exact ⟨ret_bool HB.out.symm, rfl⟩
  · have ga : gate a = true := by cases h : gate a <;> simp [h] at hg ⊢
    have gb : gate b = true := by cases h : gate b <;> simp [h] at hg ⊢
    obtain ⟨S, hS, iS, eS, _⟩ := whole_exact a ga
    obtain ⟨T, hT, iT, eT, _⟩ := whole_exact b gb
    have hb : (wholeB a && wholeB b) = (eqB (F S) a && eqB (F T) b) := by simp only [wholeB, ga, gb, Bool.true_and, eS, eT]
    simp only [gate, geB, leB, Bool.and_eq_true] at ga gb
    obtain ⟨a1, a2⟩ := ga
    obtain ⟨b1, b2⟩ := gb
    have HB := Lib.hid hb
    have HS := Lib.hid iS
    have HT := Lib.hid iT
    clear hb hg hS iS eS hT iT eT
    go_enter Try.func22, Try.ntmps22
    go_wp2_with fail
    refine (repoch_any _ _ _ HS.out _).mono ?_
    rintro r w' ⟨rfl, rfl⟩
    go_wp2_with fail
    refine (rnum_any _ _ _ HT.out _).mono ?_
    rintro r w' ⟨rfl, rfl⟩
    go_wp2_with fail
    refine (rmake_any _ _ _).mono ?_
    rintro r w' ⟨rfl, rfl⟩
    go_wp2_with fail
    go_ret
    exact ⟨ret_bool (by rw [HB.out]; rfl), rfl⟩

theorem eq_refl_F (n : Int) (h : 0 ≤ n) (hb : n < 9007199254740992) : (FloatKind.f64.format.order (F n) (F n) == some Ordering.eq) = true := by
  rw [order_F n n h (by omega) h (by omega)]
  simp

theorem aheadF (a b c d : Int) (ha : 0 ≤ a) (ha' : a < 9007199254740992) (hb : 0 ≤ b) (hb' : b < 9007199254740992) (hc : 0 ≤ c) (hc' : c < 9007199254740992) (hd : 0 ≤ d) (hd' : d < 9007199254740992) :
    aheadB (F a) (F b) (F c) (F d) = raheadB a b c d := by
  unfold aheadB raheadB eqB ltB
  rw [order_F a c ha (by omega) hc (by omega), order_F b d hb (by omega) hd (by omega)]
  rcases Int.lt_trichotomy a c with h | h | h
  · have hn : ¬ a = c := by omega
    simp [Int.compare_eq_lt.2 h, hn, h]
  · subst h
    rcases Int.lt_trichotomy b d with k | k | k
    · simp [Int.compare_eq_lt.2 k, k]
    · subst k; simp
    · have hn : ¬ b < d := by omega
      simp [Int.compare_eq_gt.2 k, hn]
  · have hn : ¬ a = c := by omega
    have hm : ¬ a < c := by omega
    simp [Int.compare_eq_gt.2 h, hn, hm]

theorem eqF (a c : Int) (ha : 0 ≤ a) (ha' : a < 9007199254740992) (hc : 0 ≤ c) (hc' : c < 9007199254740992) :
    (FloatKind.f64.format.order (F a) (F c) == some Ordering.eq) = decide (a = c) := by
  rw [order_F a c ha (by omega) hc (by omega)]
  rcases Int.lt_trichotomy a c with h | h | h
  · rw [Int.compare_eq_lt.2 h, decide_eq_false (by omega)]; rfl
  · subst h; simp
  · rw [Int.compare_eq_gt.2 h, decide_eq_false (by omega)]; rfl

theorem wholeF (n : Int) (h : 0 ≤ n) (hb : n ≤ 1099511627776) : wholeB (F n) = true := by
  have g : gate (F n) = true := by
    unfold gate geB leB
    rw [← most_bits]
    have e0 := order_F n 0 h (by omega) (by omega) (by omega)
    rw [zero_bits] at e0
    rw [e0, order_F n 1099511627776 h (by omega) (by omega) (by omega)]
    have c0 : compare n 0 = .gt ∨ compare n 0 = .eq := by
      by_cases hz : n = 0
      · subst hz; right; rfl
      · left; exact Int.compare_eq_gt.2 (by omega)
    have c1 : compare n 1099511627776 = .lt ∨ compare n 1099511627776 = .eq := by
      by_cases hz : n = 1099511627776
      · subst hz; right; rfl
      · left; exact Int.compare_eq_lt.2 (by omega)
    rcases c0 with c0 | c0 <;> rcases c1 with c1 | c1 <;> rw [c0, c1] <;> rfl
  obtain ⟨T, hT, iT, eT, _⟩ := whole_exact (F n) g
  rw [toInt_F n h (by omega)] at iT
  cases iT
  rw [wholeB, g, eT, Bool.true_and]
  exact eq_refl_F T h (by omega)

theorem awake_any (w : World) : Calls Try.prog 16 #[] w fun r w' => r = .returned (.bool true) ∧ w = w' := by
  have t2 := Lib.hid (toInt_F 2 (by omega) (by omega))
  have t5 := Lib.hid (toInt_F 5 (by omega) (by omega))
  have a1 := Lib.hid (show aheadB (F 2) (F 5) (F 3) (F 0) = true by rw [aheadF] <;> first | rfl | omega)
  have a2 := Lib.hid (show aheadB (F 2) (F 5) (F 2) (F 5) = false by rw [aheadF] <;> first | rfl | omega)
  have a3 := Lib.hid (show aheadB (F 2) (F 4) (F 2) (F 5) = true by rw [aheadF] <;> first | rfl | omega)
  have ad := Lib.hid (show floatBits .add .f64 (F 5) 4607182418800017408 = some (F 6) from add_F 5 (by omega) (by omega))
  have wh := Lib.hid (show (wholeB (F 2) && wholeB (F 5)) = true by rw [wholeF, wholeF] <;> first | rfl | omega)
  have q2 := eq_refl_F 2 (by omega) (by omega)
  have q3 := eq_refl_F 3 (by omega) (by omega)
  have q5 := eq_refl_F 5 (by omega) (by omega)
  have q6 := eq_refl_F 6 (by omega) (by omega)
  go_enter Try.func16, Try.ntmps16
  go_wp2_with fail
  refine (make_any _ _ _).mono ?_
  rintro r w' ⟨rfl, rfl⟩
  go_wp2_with fail
  refine (epoch_any _ _ _ t2.out _).mono ?_
  rintro r w' ⟨rfl, rfl⟩
  go_wp2_with fail
  refine (num_any _ _ _ t5.out _).mono ?_
  rintro r w' ⟨rfl, rfl⟩
  go_wp2_with fail
  refine (make_any _ _ _).mono ?_
  rintro r w' ⟨rfl, rfl⟩
  go_wp2_with fail
  refine (ahead_any _ _ _ _ _).mono ?_
  rintro r w' ⟨rfl, rfl⟩
  rw [a1.out]
  go_wp2_with fail
  refine (ahead_any _ _ _ _ _).mono ?_
  rintro r w' ⟨rfl, rfl⟩
  rw [a2.out]
  go_wp2_with fail
  refine (next_any _ _ _ _ ad.out _).mono ?_
  rintro r w' ⟨rfl, rfl⟩
  go_wp2_with fail
  refine (make_any _ _ _).mono ?_
  rintro r w' ⟨rfl, rfl⟩
  go_wp2_with fail
  refine (right_any _ _ _).mono ?_
  rintro r w' ⟨rfl, rfl⟩
  rw [wh.out]
  go_wp2_with fail
  refine (make_any _ _ _).mono ?_
  rintro r w' ⟨rfl, rfl⟩
  go_wp2_with fail
  refine (later_any _ _ _ _ _).mono ?_
  rintro r w' ⟨rfl, rfl⟩
  rw [a3.out]
  go_wp2_with fail
  go_ret
  exact ⟨rfl, rfl⟩

end Go.Proofs.Ytcmmmacndedikaa.ver
