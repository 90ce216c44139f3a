/- For every six ints, VerOrder returns true and leaves its arguments as they were. No conditions. -/
import Derived.Test.YtcmmmacndedikaaRows
import Derived.WalkKit
import Derived.ProofKit
import Derived.OpenShut
import Derived.ShutString
import Derived.ChangeOld
import Derived.Below
import Derived.Laws.Cover2
import Derived.Test.YtcmmmacndedikaaVer
namespace Go.Proofs.Ytcmmmacndedikaa.verOrder
open Go.ChangeShapes Go.WideShapes Go.ChangeAt Go.RowKit
open Go.ChangeMaps (open_string shut_string)
set_option linter.unusedVariables false

theorem own : ownKnob Try.prog.godebug = none := by kernel_rfl
theorem laidOut : laidOutB Try.prog = true := by kernel_rfl

open ver flt
theorem fits_bounds {n : Int} (h : fitsB n = true) : 0 ≤ n ∧ n ≤ 1099511627776 := by
  simpa [fitsB] using h
theorem ra_true {a b c d : Int} : raheadB a b c d = true ↔ a < c ∨ a = c ∧ b < d := by
  unfold raheadB
  by_cases h : a = c
  · rw [if_pos h]; simp only [decide_eq_true_eq]; omega
  · rw [if_neg h]; simp only [decide_eq_true_eq]; omega
theorem ra_false {a b c d : Int} : raheadB a b c d = false ↔ ¬ (a < c ∨ a = c ∧ b < d) := by
  rw [← ra_true]; simp

theorem walk (a0 : Int) (a1 : Int) (a2 : Int) (a3 : Int) (a4 : Int) (a5 : Int) (w : World) (w0 : (Lit.int .i64 a0).wf = true) (w1 : (Lit.int .i64 a1).wf = true) (w2 : (Lit.int .i64 a2).wf = true) (w3 : (Lit.int .i64 a3).wf = true) (w4 : (Lit.int .i64 a4).wf = true) (w5 : (Lit.int .i64 a5).wf = true) :
    Calls Try.prog 9 #[.int .i64 a0, .int .i64 a1, .int .i64 a2, .int .i64 a3, .int .i64 a4, .int .i64 a5] w fun e w' => e = .returned (.bool true) ∧ Below w.heap.size w w' := by
  have fin : ∀ w : World, Below w.heap.size w w := fun w => Below.refl _ _
  cases h0 : fitsB a0
  · have H0 := Lib.hid h0
    clear h0
    go_enter Try.func9, Try.ntmps9
    go_wp2_with fail
    refine (fits_any _ _).mono ?_
    rintro r w' ⟨rfl, rfl⟩
    rw [H0.out]
    go_wp2_with fail
    refine (awake_any _).mono ?_
    rintro r w' ⟨rfl, rfl⟩
    go_wp2_with fail
    go_ret
    exact ⟨rfl, fin _⟩
  cases h1 : fitsB a1
  · have H0 := Lib.hid h0
    have H1 := Lib.hid h1
    clear h0 h1
    go_enter Try.func9, Try.ntmps9
    go_wp2_with fail
    refine (fits_any _ _).mono ?_
    rintro r w' ⟨rfl, rfl⟩
    rw [H0.out]
    go_wp2_with fail
    refine (fits_any _ _).mono ?_
    rintro r w' ⟨rfl, rfl⟩
    rw [H1.out]
    go_wp2_with fail
    refine (awake_any _).mono ?_
    rintro r w' ⟨rfl, rfl⟩
    go_wp2_with fail
    go_ret
    exact ⟨rfl, fin _⟩
  cases h2 : fitsB a2
  · have H0 := Lib.hid h0
    have H1 := Lib.hid h1
    have H2 := Lib.hid h2
    clear h0 h1 h2
    go_enter Try.func9, Try.ntmps9
    go_wp2_with fail
    refine (fits_any _ _).mono ?_
    rintro r w' ⟨rfl, rfl⟩
    rw [H0.out]
    go_wp2_with fail
    refine (fits_any _ _).mono ?_
    rintro r w' ⟨rfl, rfl⟩
    rw [H1.out]
    go_wp2_with fail
    refine (fits_any _ _).mono ?_
    rintro r w' ⟨rfl, rfl⟩
    rw [H2.out]
    go_wp2_with fail
    refine (awake_any _).mono ?_
    rintro r w' ⟨rfl, rfl⟩
    go_wp2_with fail
    go_ret
    exact ⟨rfl, fin _⟩
  cases h3 : fitsB a3
  · have H0 := Lib.hid h0
    have H1 := Lib.hid h1
    have H2 := Lib.hid h2
    have H3 := Lib.hid h3
    clear h0 h1 h2 h3
    go_enter Try.func9, Try.ntmps9
    go_wp2_with fail
    refine (fits_any _ _).mono ?_
    rintro r w' ⟨rfl, rfl⟩
    rw [H0.out]
    go_wp2_with fail
    refine (fits_any _ _).mono ?_
    rintro r w' ⟨rfl, rfl⟩
    rw [H1.out]
    go_wp2_with fail
    refine (fits_any _ _).mono ?_
    rintro r w' ⟨rfl, rfl⟩
    rw [H2.out]
    go_wp2_with fail
    refine (fits_any _ _).mono ?_
    rintro r w' ⟨rfl, rfl⟩
    rw [H3.out]
    go_wp2_with fail
    refine (awake_any _).mono ?_
    rintro r w' ⟨rfl, rfl⟩
    go_wp2_with fail
    go_ret
    exact ⟨rfl, fin _⟩
  cases h4 : fitsB a4
  · have H0 := Lib.hid h0
    have H1 := Lib.hid h1
    have H2 := Lib.hid h2
    have H3 := Lib.hid h3
    have H4 := Lib.hid h4
    clear h0 h1 h2 h3 h4
    go_enter Try.func9, Try.ntmps9
    go_wp2_with fail
    refine (fits_any _ _).mono ?_
    rintro r w' ⟨rfl, rfl⟩
    rw [H0.out]
    go_wp2_with fail
    refine (fits_any _ _).mono ?_
    rintro r w' ⟨rfl, rfl⟩
    rw [H1.out]
    go_wp2_with fail
    refine (fits_any _ _).mono ?_
    rintro r w' ⟨rfl, rfl⟩
    rw [H2.out]
    go_wp2_with fail
    refine (fits_any _ _).mono ?_
    rintro r w' ⟨rfl, rfl⟩
    rw [H3.out]
    go_wp2_with fail
    refine (fits_any _ _).mono ?_
    rintro r w' ⟨rfl, rfl⟩
    rw [H4.out]
    go_wp2_with fail
    refine (awake_any _).mono ?_
    rintro r w' ⟨rfl, rfl⟩
    go_wp2_with fail
    go_ret
    exact ⟨rfl, fin _⟩
  cases h5 : fitsB a5
  · have H0 := Lib.hid h0
    have H1 := Lib.hid h1
    have H2 := Lib.hid h2
    have H3 := Lib.hid h3
    have H4 := Lib.hid h4
    have H5 := Lib.hid h5
    clear h0 h1 h2 h3 h4 h5
    go_enter Try.func9, Try.ntmps9
    go_wp2_with fail
    refine (fits_any _ _).mono ?_
    rintro r w' ⟨rfl, rfl⟩
    rw [H0.out]
    go_wp2_with fail
    refine (fits_any _ _).mono ?_
    rintro r w' ⟨rfl, rfl⟩
    rw [H1.out]
    go_wp2_with fail
    refine (fits_any _ _).mono ?_
    rintro r w' ⟨rfl, rfl⟩
    rw [H2.out]
    go_wp2_with fail
    refine (fits_any _ _).mono ?_
    rintro r w' ⟨rfl, rfl⟩
    rw [H3.out]
    go_wp2_with fail
    refine (fits_any _ _).mono ?_
    rintro r w' ⟨rfl, rfl⟩
    rw [H4.out]
    go_wp2_with fail
    refine (fits_any _ _).mono ?_
    rintro r w' ⟨rfl, rfl⟩
    rw [H5.out]
    go_wp2_with fail
    refine (awake_any _).mono ?_
    rintro r w' ⟨rfl, rfl⟩
    go_wp2_with fail
    go_ret
    exact ⟨rfl, fin _⟩
  obtain ⟨b0, b0'⟩ := fits_bounds h0
  obtain ⟨b1, b1'⟩ := fits_bounds h1
  obtain ⟨b2, b2'⟩ := fits_bounds h2
  obtain ⟨b3, b3'⟩ := fits_bounds h3
  obtain ⟨b4, b4'⟩ := fits_bounds h4
  obtain ⟨b5, b5'⟩ := fits_bounds h5
  have H0 := Lib.hid h0
  have H1 := Lib.hid h1
  have H2 := Lib.hid h2
  have H3 := Lib.hid h3
  have H4 := Lib.hid h4
  have H5 := Lib.hid h5
  clear h0 h1 h2 h3 h4 h5
  have xy := aheadF a0 a1 a2 a3 b0 (by omega) b1 (by omega) b2 (by omega) b3 (by omega)
  have yx := aheadF a2 a3 a0 a1 b2 (by omega) b3 (by omega) b0 (by omega) b1 (by omega)
  have yz := aheadF a2 a3 a4 a5 b2 (by omega) b3 (by omega) b4 (by omega) b5 (by omega)
  have xz := aheadF a0 a1 a4 a5 b0 (by omega) b1 (by omega) b4 (by omega) b5 (by omega)
  have xx := aheadF a0 a1 a0 a1 b0 (by omega) b1 (by omega) b0 (by omega) b1 (by omega)
  have yy := aheadF a2 a3 a2 a3 b2 (by omega) b3 (by omega) b2 (by omega) b3 (by omega)
  rw [show raheadB a0 a1 a0 a1 = false from ra_false.2 (by omega)] at xx
  rw [show raheadB a2 a3 a2 a3 = false from ra_false.2 (by omega)] at yy
  have e0 := eqF a0 a2 b0 (by omega) b2 (by omega)
  have e1 := eqF a1 a3 b1 (by omega) b3 (by omega)
  by_cases c1 : a0 < a2 ∨ a0 = a2 ∧ a1 < a3
  · rw [show raheadB a0 a1 a2 a3 = true from ra_true.2 c1] at xy
    rw [show raheadB a2 a3 a0 a1 = false from ra_false.2 (by omega)] at yx
    have eq : ((FloatKind.f64.format.order (F a0) (F a2) == some Ordering.eq) && (FloatKind.f64.format.order (F a1) (F a3) == some Ordering.eq)) = false := by
      rw [e0, e1]
      rcases c1 with c | ⟨c, c'⟩
      · rw [decide_eq_false (show ¬ a0 = a2 by omega)]; rfl
      · rw [decide_eq_false (show ¬ a1 = a3 by omega)]; simp
    cases hz : raheadB a2 a3 a4 a5
    · rw [hz] at yz
      have XY := Lib.hid xy
      have YX := Lib.hid yx
      have YZ := Lib.hid yz
      have YY := Lib.hid yy
      clear xy yx yz xz xx yy e0 e1 hz c1
      go_enter Try.func9, Try.ntmps9
      go_wp2_with fail
      refine (fits_any _ _).mono ?_
      rintro r w' ⟨rfl, rfl⟩
      rw [H0.out]
      go_wp2_with fail
      refine (fits_any _ _).mono ?_
      rintro r w' ⟨rfl, rfl⟩
      rw [H1.out]
      go_wp2_with fail
      refine (fits_any _ _).mono ?_
      rintro r w' ⟨rfl, rfl⟩
      rw [H2.out]
      go_wp2_with fail
      refine (fits_any _ _).mono ?_
      rintro r w' ⟨rfl, rfl⟩
      rw [H3.out]
      go_wp2_with fail
      refine (fits_any _ _).mono ?_
      rintro r w' ⟨rfl, rfl⟩
      rw [H4.out]
      go_wp2_with fail
      refine (fits_any _ _).mono ?_
      rintro r w' ⟨rfl, rfl⟩
      rw [H5.out]
      go_wp2_with fail
      refine (make_any _ _ _).mono ?_
      rintro r w' ⟨rfl, rfl⟩
      go_wp2_with fail
      refine (make_any _ _ _).mono ?_
      rintro r w' ⟨rfl, rfl⟩
      go_wp2_with fail
      refine (make_any _ _ _).mono ?_
      rintro r w' ⟨rfl, rfl⟩
      go_wp2_with fail
      refine (ahead_any _ _ _ _ _).mono ?_
      rintro r w' ⟨rfl, rfl⟩
      rw [XY.out]
      go_wp2_with fail
      refine (ahead_any _ _ _ _ _).mono ?_
      rintro r w' ⟨rfl, rfl⟩
      rw [YX.out]
      go_wp2_with fail
      refine (ahead_any _ _ _ _ _).mono ?_
      rintro r w' ⟨rfl, rfl⟩
      rw [XY.out]
      go_wp2_with fail
      refine (ahead_any _ _ _ _ _).mono ?_
      rintro r w' ⟨rfl, rfl⟩
      rw [YZ.out]
      go_wp2_with fail
      refine (awake_any _).mono ?_
      rintro r w' ⟨rfl, rfl⟩
      go_wp2_with fail
      refine (later_any _ _ _ _ _).mono ?_
      rintro r w' ⟨rfl, rfl⟩
      rw [YX.out]
      go_wp2_with fail
      refine (ahead_any _ _ _ _ _).mono ?_
      rintro r w' ⟨rfl, rfl⟩
      rw [YX.out]
      go_wp2_with fail
      refine (later_any _ _ _ _ _).mono ?_
      rintro r w' ⟨rfl, rfl⟩
      rw [YX.out]
      go_wp2_with fail
      refine (ahead_any _ _ _ _ _).mono ?_
      rintro r w' ⟨rfl, rfl⟩
      rw [YY.out]
      go_wp2_with fail
      go_ret
      exact ⟨rfl, fin _⟩
    · rw [hz] at yz
      have k := ra_true.1 hz
      rw [show raheadB a0 a1 a4 a5 = true from ra_true.2 (by omega)] at xz
      have XY := Lib.hid xy
      have YX := Lib.hid yx
      have YZ := Lib.hid yz
      have XZ := Lib.hid xz
      have YY := Lib.hid yy
      clear xy yx yz xz xx yy e0 e1 hz c1 k
      go_enter Try.func9, Try.ntmps9
      go_wp2_with fail
      refine (fits_any _ _).mono ?_
      rintro r w' ⟨rfl, rfl⟩
      rw [H0.out]
      go_wp2_with fail
      refine (fits_any _ _).mono ?_
      rintro r w' ⟨rfl, rfl⟩
      rw [H1.out]
      go_wp2_with fail
      refine (fits_any _ _).mono ?_
      rintro r w' ⟨rfl, rfl⟩
      rw [H2.out]
      go_wp2_with fail
      refine (fits_any _ _).mono ?_
      rintro r w' ⟨rfl, rfl⟩
      rw [H3.out]
      go_wp2_with fail
      refine (fits_any _ _).mono ?_
      rintro r w' ⟨rfl, rfl⟩
      rw [H4.out]
      go_wp2_with fail
      refine (fits_any _ _).mono ?_
      rintro r w' ⟨rfl, rfl⟩
      rw [H5.out]
      go_wp2_with fail
      refine (make_any _ _ _).mono ?_
      rintro r w' ⟨rfl, rfl⟩
      go_wp2_with fail
      refine (make_any _ _ _).mono ?_
      rintro r w' ⟨rfl, rfl⟩
      go_wp2_with fail
      refine (make_any _ _ _).mono ?_
      rintro r w' ⟨rfl, rfl⟩
      go_wp2_with fail
      refine (ahead_any _ _ _ _ _).mono ?_
      rintro r w' ⟨rfl, rfl⟩
      rw [XY.out]
      go_wp2_with fail
      refine (ahead_any _ _ _ _ _).mono ?_
      rintro r w' ⟨rfl, rfl⟩
      rw [YX.out]
      go_wp2_with fail
      refine (ahead_any _ _ _ _ _).mono ?_
      rintro r w' ⟨rfl, rfl⟩
      rw [XY.out]
      go_wp2_with fail
      refine (ahead_any _ _ _ _ _).mono ?_
      rintro r w' ⟨rfl, rfl⟩
      rw [YZ.out]
      go_wp2_with fail
      refine (ahead_any _ _ _ _ _).mono ?_
      rintro r w' ⟨rfl, rfl⟩
      rw [XZ.out]
      go_wp2_with fail
      refine (awake_any _).mono ?_
      rintro r w' ⟨rfl, rfl⟩
      go_wp2_with fail
      refine (later_any _ _ _ _ _).mono ?_
      rintro r w' ⟨rfl, rfl⟩
      rw [YX.out]
      go_wp2_with fail
      refine (ahead_any _ _ _ _ _).mono ?_
      rintro r w' ⟨rfl, rfl⟩
      rw [YX.out]
      go_wp2_with fail
      refine (later_any _ _ _ _ _).mono ?_
      rintro r w' ⟨rfl, rfl⟩
      rw [YX.out]
      go_wp2_with fail
      refine (ahead_any _ _ _ _ _).mono ?_
      rintro r w' ⟨rfl, rfl⟩
      rw [YY.out]
      go_wp2_with fail
      go_ret
      exact ⟨rfl, fin _⟩
  rw [show raheadB a0 a1 a2 a3 = false from ra_false.2 c1] at xy
  by_cases c2 : a0 = a2 ∧ a1 = a3
  · have eq : ((FloatKind.f64.format.order (F a0) (F a2) == some Ordering.eq) && (FloatKind.f64.format.order (F a1) (F a3) == some Ordering.eq)) = true := by
      rw [e0, e1, decide_eq_true c2.1, decide_eq_true c2.2]; rfl
    rw [show raheadB a2 a3 a0 a1 = false from ra_false.2 (by omega)] at yx
    have XY := Lib.hid xy
    have YX := Lib.hid yx
    have YY := Lib.hid yy
    clear xy yx yz xz xx yy e0 e1 c1 c2
    go_enter Try.func9, Try.ntmps9
    go_wp2_with fail
    refine (fits_any _ _).mono ?_
    rintro r w' ⟨rfl, rfl⟩
    rw [H0.out]
    go_wp2_with fail
    refine (fits_any _ _).mono ?_
    rintro r w' ⟨rfl, rfl⟩
    rw [H1.out]
    go_wp2_with fail
    refine (fits_any _ _).mono ?_
    rintro r w' ⟨rfl, rfl⟩
    rw [H2.out]
    go_wp2_with fail
    refine (fits_any _ _).mono ?_
    rintro r w' ⟨rfl, rfl⟩
    rw [H3.out]
    go_wp2_with fail
    refine (fits_any _ _).mono ?_
    rintro r w' ⟨rfl, rfl⟩
    rw [H4.out]
    go_wp2_with fail
    refine (fits_any _ _).mono ?_
    rintro r w' ⟨rfl, rfl⟩
    rw [H5.out]
    go_wp2_with fail
    refine (make_any _ _ _).mono ?_
    rintro r w' ⟨rfl, rfl⟩
    go_wp2_with fail
    refine (make_any _ _ _).mono ?_
    rintro r w' ⟨rfl, rfl⟩
    go_wp2_with fail
    refine (make_any _ _ _).mono ?_
    rintro r w' ⟨rfl, rfl⟩
    go_wp2_with fail
    refine (ahead_any _ _ _ _ _).mono ?_
    rintro r w' ⟨rfl, rfl⟩
    rw [XY.out]
    go_wp2_with fail
    refine (ahead_any _ _ _ _ _).mono ?_
    rintro r w' ⟨rfl, rfl⟩
    rw [YX.out]
    go_wp2_with fail
    refine (ahead_any _ _ _ _ _).mono ?_
    rintro r w' ⟨rfl, rfl⟩
    rw [XY.out]
    go_wp2_with fail
    refine (awake_any _).mono ?_
    rintro r w' ⟨rfl, rfl⟩
    go_wp2_with fail
    refine (later_any _ _ _ _ _).mono ?_
    rintro r w' ⟨rfl, rfl⟩
    rw [YX.out]
    go_wp2_with fail
    refine (ahead_any _ _ _ _ _).mono ?_
    rintro r w' ⟨rfl, rfl⟩
    rw [YX.out]
    go_wp2_with fail
    refine (later_any _ _ _ _ _).mono ?_
    rintro r w' ⟨rfl, rfl⟩
    rw [YX.out]
    go_wp2_with fail
    refine (ahead_any _ _ _ _ _).mono ?_
    rintro r w' ⟨rfl, rfl⟩
    rw [YY.out]
    go_wp2_with fail
    go_ret
    exact ⟨rfl, fin _⟩
  · have eq : ((FloatKind.f64.format.order (F a0) (F a2) == some Ordering.eq) && (FloatKind.f64.format.order (F a1) (F a3) == some Ordering.eq)) = false := by
      rw [e0, e1]
      by_cases k : a0 = a2
      · rw [decide_eq_false (show ¬ a1 = a3 by omega)]; simp
      · rw [decide_eq_false k]; rfl
    rw [show raheadB a2 a3 a0 a1 = true from ra_true.2 (by omega)] at yx
    have XY := Lib.hid xy
    have YX := Lib.hid yx
    have XX := Lib.hid xx
    clear xy yx yz xz xx yy e0 e1 c1 c2
    go_enter Try.func9, Try.ntmps9
    go_wp2_with fail
    refine (fits_any _ _).mono ?_
    rintro r w' ⟨rfl, rfl⟩
    rw [H0.out]
    go_wp2_with fail
    refine (fits_any _ _).mono ?_
    rintro r w' ⟨rfl, rfl⟩
    rw [H1.out]
    go_wp2_with fail
    refine (fits_any _ _).mono ?_
    rintro r w' ⟨rfl, rfl⟩
    rw [H2.out]
    go_wp2_with fail
    refine (fits_any _ _).mono ?_
    rintro r w' ⟨rfl, rfl⟩
    rw [H3.out]
    go_wp2_with fail
    refine (fits_any _ _).mono ?_
    rintro r w' ⟨rfl, rfl⟩
    rw [H4.out]
    go_wp2_with fail
    refine (fits_any _ _).mono ?_
    rintro r w' ⟨rfl, rfl⟩
    rw [H5.out]
    go_wp2_with fail
    refine (make_any _ _ _).mono ?_
    rintro r w' ⟨rfl, rfl⟩
    go_wp2_with fail
    refine (make_any _ _ _).mono ?_
    rintro r w' ⟨rfl, rfl⟩
    go_wp2_with fail
    refine (make_any _ _ _).mono ?_
    rintro r w' ⟨rfl, rfl⟩
    go_wp2_with fail
    refine (ahead_any _ _ _ _ _).mono ?_
    rintro r w' ⟨rfl, rfl⟩
    rw [XY.out]
    go_wp2_with fail
    refine (ahead_any _ _ _ _ _).mono ?_
    rintro r w' ⟨rfl, rfl⟩
    rw [YX.out]
    go_wp2_with fail
    refine (ahead_any _ _ _ _ _).mono ?_
    rintro r w' ⟨rfl, rfl⟩
    rw [XY.out]
    go_wp2_with fail
    refine (awake_any _).mono ?_
    rintro r w' ⟨rfl, rfl⟩
    go_wp2_with fail
    refine (later_any _ _ _ _ _).mono ?_
    rintro r w' ⟨rfl, rfl⟩
    rw [YX.out]
    go_wp2_with fail
    refine (ahead_any _ _ _ _ _).mono ?_
    rintro r w' ⟨rfl, rfl⟩
    rw [XX.out]
    go_wp2_with fail
    refine (later_any _ _ _ _ _).mono ?_
    rintro r w' ⟨rfl, rfl⟩
    rw [YX.out]
    go_wp2_with fail
    refine (ahead_any _ _ _ _ _).mono ?_
    rintro r w' ⟨rfl, rfl⟩
    rw [XY.out]
    go_wp2_with fail
    go_ret
    exact ⟨rfl, fin _⟩

set_option maxRecDepth 100000 in
theorem lifted (os : Os) (started : os.Started) (H : Type) (enc : TypeId × Value → H) :
    ReturnsInHanded {} Try.checked os 9 .any (Rows.verOrderSpec.pre6 enc Try.prog Try.f9 Rows.verOrderRow.domain false) (Rows.verOrderSpec.post enc Try.prog Try.f9 false true false false) := by
  refine returnsInHanded_of_change (C := Try.checked) own started (by kernel_rfl) Try.func9
    (ChangeSpec.witness6 (enc := enc) (C := Try.checked) false ⟨#[], #[.int .i64 0, .int .i64 0, .int .i64 0, .int .i64 0, .int .i64 0, .int .i64 0], []⟩ 8 (by kernel_rfl) (by kernel_rfl) (by kernel_rfl) (by kernel_rfl)) ?_
  intro W base args ds gs before hval0 hW hcnd _
  have hval : ∀ (j : Nat) t v, Try.f9.params[j]? = some t → args[j]? = some v → Value.okWide Try.prog W .any base t v := hval0
  have hW' := hW
  obtain ⟨p, q, hA0, hV, rfl, hfz, hnd⟩ := hW
  have hA : DataW.TrodAll enc Try.prog W 0 (fun _ => true) true Try.f9.params.toList args.toList ds p := hA0
  rw [Try.params9] at hA hval
  obtain ⟨v0, vs0, d0, ds0, p0, q0, hargs, rfl, rfl, h0, r0⟩ := trodAll_cons hA
  obtain ⟨v1, vs1, d1, ds1, p1, q1, rfl, rfl, rfl, h1, r1⟩ := trodAll_cons r0
  obtain ⟨v2, vs2, d2, ds2, p2, q2, rfl, rfl, rfl, h2, r2⟩ := trodAll_cons r1
  obtain ⟨v3, vs3, d3, ds3, p3, q3, rfl, rfl, rfl, h3, r3⟩ := trodAll_cons r2
  obtain ⟨v4, vs4, d4, ds4, p4, q4, rfl, rfl, rfl, h4, r4⟩ := trodAll_cons r3
  obtain ⟨v5, vs5, d5, ds5, p5, q5, rfl, rfl, rfl, h5, r5⟩ := trodAll_cons r4
  obtain ⟨rfl, rfl, rfl⟩ := trodAll_nil r5
  obtain rfl : args = #[v0, v1, v2, v3, v4, v5] := by cases args; simp_all
  obtain ⟨rfl, rfl⟩ := trodVars_none hV
  obtain ⟨a0, rfl, rfl, rfl, w0⟩ := open_int Try.underlying3 (hval 0 3 v0 rfl rfl) h0
  obtain ⟨a1, rfl, rfl, rfl, w1⟩ := open_int Try.underlying3 (hval 1 3 v1 rfl rfl) h1
  obtain ⟨a2, rfl, rfl, rfl, w2⟩ := open_int Try.underlying3 (hval 2 3 v2 rfl rfl) h2
  obtain ⟨a3, rfl, rfl, rfl, w3⟩ := open_int Try.underlying3 (hval 3 3 v3 rfl rfl) h3
  obtain ⟨a4, rfl, rfl, rfl, w4⟩ := open_int Try.underlying3 (hval 4 3 v4 rfl rfl) h4
  obtain ⟨a5, rfl, rfl, rfl, w5⟩ := open_int Try.underlying3 (hval 5 3 v5 rfl rfl) h5
  clear hA0 hval0
  refine (walk a0 a1 a2 a3 a4 a5 W w0 w1 w2 w3 w4 w5).mono fun e W' ⟨he, bel⟩ => ?_
  subst he
  exact ⟨_, rfl, _, _, _, [], _, [], hW', trodAll_mk1 (shut_bool Try.underlying4 _), (trodAll_cons_mk (shut_int Try.underlying3 w0) (trodAll_cons_mk (shut_int Try.underlying3 w1) (trodAll_cons_mk (shut_int Try.underlying3 w2) (trodAll_cons_mk (shut_int Try.underlying3 w3) (trodAll_cons_mk (shut_int Try.underlying3 w4) (trodAll_cons_mk (shut_int Try.underlying3 w5) trodAll_mk0)))))), rfl, bel.frame _, fun h => by cases h⟩

theorem over : Rows.verOrderRow.holds Try.pinned (OpenSpec.ofChange Rows.verOrderSpec) :=
  OpenClaim.holds_of_wide 9 Try.f9 rfl rfl rfl rfl rfl rfl rfl ⟨rfl, rfl, rfl, rfl, rfl⟩ rfl rfl rfl rfl rfl (by kernel_rfl) Try.func9 (by kernel_rfl)
    (of_decide_eq_true (by kernel_rfl)) (by unfold Func.isWrapper; first | (rw [if_pos (by decide +kernel)]; kernel_rfl) | (rw [if_neg (by decide +kernel)]; exact ⟨rfl, rfl⟩))
    (fun os started H enc _ => lifted os started H enc)

/-- The statement. -/
theorem proved : Rows.VerOrderSaid := over
#print axioms proved
end Go.Proofs.Ytcmmmacndedikaa.verOrder
