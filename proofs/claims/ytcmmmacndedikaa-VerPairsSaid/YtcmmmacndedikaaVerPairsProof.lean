/- For every four ints, VerPairs returns true and leaves its arguments as they were. No conditions. -/
import Derived.Test.YtcmmmacndedikaaRows
import Derived.WalkKit
import Derived.ProofKit
import Derived.OpenShut
import Derived.ShutString
import Derived.ChangeOld
import Derived.Below
import Derived.Laws.Cover2
import Derived.Test.YtcmmmacndedikaaVer
namespace Go.Proofs.Ytcmmmacndedikaa.verPairs
open Go.ChangeShapes Go.WideShapes Go.ChangeAt Go.RowKit
open Go.ChangeMaps (open_string shut_string)
set_option linter.unusedVariables false

theorem own : ownKnob Try.prog.godebug = none := by kernel_rfl
theorem laidOut : laidOutB Try.prog = true := by kernel_rfl

open ver flt
theorem fits_bounds {n : Int} (h : fitsB n = true) : 0 ≤ n ∧ n ≤ 1099511627776 := by
  simpa [fitsB] using h
theorem later_same (a b c d : Int) (ha : 0 ≤ a) (ha' : a < 9007199254740992) (hb : 0 ≤ b) (hb' : b < 9007199254740992) (hc : 0 ≤ c) (hc' : c < 9007199254740992) (hd : 0 ≤ d) (hd' : d < 9007199254740992) :
    (if aheadB (F c) (F d) (F a) (F b) then (Value.complex .f64 (F a) (F b)) else .complex .f64 (F c) (F d)) = if raheadB a b c d then .complex .f64 (F c) (F d) else .complex .f64 (F a) (F b) := by
  rw [aheadF c d a b hc hc' hd hd' ha ha' hb hb']
  unfold raheadB
  by_cases h1 : a = c
  · subst h1
    simp only [if_true, decide_eq_true_eq]
    by_cases h2 : b < d
    · rw [if_neg (by omega), if_pos h2]
    · by_cases h3 : d < b
      · rw [if_pos h3, if_neg h2]
      · have : b = d := by omega
        subst this
        simp
  · have h1' : ¬ c = a := by omega
    simp only [h1, h1', if_false, decide_eq_true_eq]
    by_cases h2 : a < c
    · have h3 : ¬ c < a := by omega
      rw [if_neg h3, if_pos h2]
    · have h3 : c < a := by omega
      rw [if_pos h3, if_neg h2]

theorem walk (a0 : Int) (a1 : Int) (a2 : Int) (a3 : Int) (w : World) (w0 : (Lit.int .i64 a0).wf = true) (w1 : (Lit.int .i64 a1).wf = true) (w2 : (Lit.int .i64 a2).wf = true) (w3 : (Lit.int .i64 a3).wf = true) :
    Calls Try.prog 8 #[.int .i64 a0, .int .i64 a1, .int .i64 a2, .int .i64 a3] w fun e w' => e = .returned (.bool true) ∧ Below w.heap.size w w' := by
  have fin : ∀ w : World, Below w.heap.size w w := fun w => Below.refl _ _
  cases h0 : fitsB a0
  · have H0 := Lib.hid h0
    clear h0
    go_enter Try.func8, Try.ntmps8
    go_wp2_with fail
    refine (fits_any _ _).mono ?_
    rintro r w' ⟨rfl, rfl⟩
    rw [H0.out]
    go_wp2_with fail
    refine (awake_any _).mono ?_
    rintro r w' ⟨rfl, rfl⟩
    go_wp2_with fail
    go_ret
    exact ⟨rfl, fin _⟩
  cases h1 : fitsB a1
  · have H0 := Lib.hid h0
    have H1 := Lib.hid h1
    clear h0 h1
    go_enter Try.func8, Try.ntmps8
    go_wp2_with fail
    refine (fits_any _ _).mono ?_
    rintro r w' ⟨rfl, rfl⟩
    rw [H0.out]
    go_wp2_with fail
    refine (fits_any _ _).mono ?_
    rintro r w' ⟨rfl, rfl⟩
    rw [H1.out]
    go_wp2_with fail
    refine (awake_any _).mono ?_
    rintro r w' ⟨rfl, rfl⟩
    go_wp2_with fail
    go_ret
    exact ⟨rfl, fin _⟩
  cases h2 : fitsB a2
  · have H0 := Lib.hid h0
    have H1 := Lib.hid h1
    have H2 := Lib.hid h2
    clear h0 h1 h2
    go_enter Try.func8, Try.ntmps8
    go_wp2_with fail
    refine (fits_any _ _).mono ?_
    rintro r w' ⟨rfl, rfl⟩
    rw [H0.out]
    go_wp2_with fail
    refine (fits_any _ _).mono ?_
    rintro r w' ⟨rfl, rfl⟩
    rw [H1.out]
    go_wp2_with fail
    refine (fits_any _ _).mono ?_
    rintro r w' ⟨rfl, rfl⟩
    rw [H2.out]
    go_wp2_with fail
    refine (awake_any _).mono ?_
    rintro r w' ⟨rfl, rfl⟩
    go_wp2_with fail
    go_ret
    exact ⟨rfl, fin _⟩
  cases h3 : fitsB a3
  · have H0 := Lib.hid h0
    have H1 := Lib.hid h1
    have H2 := Lib.hid h2
    have H3 := Lib.hid h3
    clear h0 h1 h2 h3
    go_enter Try.func8, Try.ntmps8
    go_wp2_with fail
    refine (fits_any _ _).mono ?_
    rintro r w' ⟨rfl, rfl⟩
    rw [H0.out]
    go_wp2_with fail
    refine (fits_any _ _).mono ?_
    rintro r w' ⟨rfl, rfl⟩
    rw [H1.out]
    go_wp2_with fail
    refine (fits_any _ _).mono ?_
    rintro r w' ⟨rfl, rfl⟩
    rw [H2.out]
    go_wp2_with fail
    refine (fits_any _ _).mono ?_
    rintro r w' ⟨rfl, rfl⟩
    rw [H3.out]
    go_wp2_with fail
    refine (awake_any _).mono ?_
    rintro r w' ⟨rfl, rfl⟩
    go_wp2_with fail
    go_ret
    exact ⟨rfl, fin _⟩
  obtain ⟨b0, b0'⟩ := fits_bounds h0
  obtain ⟨b1, b1'⟩ := fits_bounds h1
  obtain ⟨b2, b2'⟩ := fits_bounds h2
  obtain ⟨b3, b3'⟩ := fits_bounds h3
  have t0 := Lib.hid (toInt_F a0 b0 (by omega))
  have t1 := Lib.hid (toInt_F a1 b1 (by omega))
  have t2 := Lib.hid (toInt_F a2 b2 (by omega))
  have t3 := Lib.hid (toInt_F a3 b3 (by omega))
  have q0 := eq_refl_F a0 b0 (by omega)
  have q1 := eq_refl_F a1 b1 (by omega)
  have q2 := eq_refl_F a2 b2 (by omega)
  have q3 := eq_refl_F a3 b3 (by omega)
  have ha := Lib.hid (aheadF a0 a1 a2 a3 b0 (by omega) b1 (by omega) b2 (by omega) b3 (by omega))
  have hl := Lib.hid (later_same a0 a1 a2 a3 b0 (by omega) b1 (by omega) b2 (by omega) b3 (by omega))
  cases hr : raheadB a0 a1 a2 a3
  all_goals
    have HR := Lib.hid hr
    have H0 := Lib.hid h0
    have H1 := Lib.hid h1
    have H2 := Lib.hid h2
    have H3 := Lib.hid h3
    clear h0 h1 h2 h3 hr
    go_enter Try.func8, Try.ntmps8
    go_wp2_with fail
    refine (fits_any _ _).mono ?_
    rintro r w' ⟨rfl, rfl⟩
    rw [H0.out]
    go_wp2_with fail
    refine (fits_any _ _).mono ?_
    rintro r w' ⟨rfl, rfl⟩
    rw [H1.out]
    go_wp2_with fail
    refine (fits_any _ _).mono ?_
    rintro r w' ⟨rfl, rfl⟩
    rw [H2.out]
    go_wp2_with fail
    refine (fits_any _ _).mono ?_
    rintro r w' ⟨rfl, rfl⟩
    rw [H3.out]
    go_wp2_with fail
    refine (rmake_any _ _ _).mono ?_
    rintro r w' ⟨rfl, rfl⟩
    go_wp2_with fail
    refine (rmake_any _ _ _).mono ?_
    rintro r w' ⟨rfl, rfl⟩
    go_wp2_with fail
    refine (awake_any _).mono ?_
    rintro r w' ⟨rfl, rfl⟩
    go_wp2_with fail
    refine (ahead_any _ _ _ _ _).mono ?_
    rintro r w' ⟨rfl, rfl⟩
    rw [ha.out, HR.out]
    go_wp2_with fail
    refine (rahead_any _ _ _ _ _ _ _ _ t0.out t1.out t2.out t3.out _).mono ?_
    rintro r w' ⟨rfl, rfl⟩
    rw [HR.out]
    go_wp2_with fail
    refine (later_any _ _ _ _ _).mono ?_
    rintro r w' ⟨rfl, rfl⟩
    rw [hl.out, HR.out]
    go_wp2_with fail
    refine (rlater_any _ _ _ _ _ _ _ _ t0.out t1.out t2.out t3.out _).mono ?_
    rintro r w' ⟨rfl, rfl⟩
    rw [HR.out]
    go_wp2_with fail
    go_ret
    exact ⟨rfl, fin _⟩

set_option maxRecDepth 100000 in
theorem lifted (os : Os) (started : os.Started) (H : Type) (enc : TypeId × Value → H) :
    ReturnsInHanded {} Try.checked os 8 .any (Rows.verPairsSpec.pre6 enc Try.prog Try.f8 Rows.verPairsRow.domain false) (Rows.verPairsSpec.post enc Try.prog Try.f8 false true false false) := by
  refine returnsInHanded_of_change (C := Try.checked) own started (by kernel_rfl) Try.func8
    (ChangeSpec.witness6 (enc := enc) (C := Try.checked) false ⟨#[], #[.int .i64 0, .int .i64 0, .int .i64 0, .int .i64 0], []⟩ 8 (by kernel_rfl) (by kernel_rfl) (by kernel_rfl) (by kernel_rfl)) ?_
  intro W base args ds gs before hval0 hW hcnd _
  have hval : ∀ (j : Nat) t v, Try.f8.params[j]? = some t → args[j]? = some v → Value.okWide Try.prog W .any base t v := hval0
  have hW' := hW
  obtain ⟨p, q, hA0, hV, rfl, hfz, hnd⟩ := hW
  have hA : DataW.TrodAll enc Try.prog W 0 (fun _ => true) true Try.f8.params.toList args.toList ds p := hA0
  rw [Try.params8] at hA hval
  obtain ⟨v0, vs0, d0, ds0, p0, q0, hargs, rfl, rfl, h0, r0⟩ := trodAll_cons hA
  obtain ⟨v1, vs1, d1, ds1, p1, q1, rfl, rfl, rfl, h1, r1⟩ := trodAll_cons r0
  obtain ⟨v2, vs2, d2, ds2, p2, q2, rfl, rfl, rfl, h2, r2⟩ := trodAll_cons r1
  obtain ⟨v3, vs3, d3, ds3, p3, q3, rfl, rfl, rfl, h3, r3⟩ := trodAll_cons r2
  obtain ⟨rfl, rfl, rfl⟩ := trodAll_nil r3
  obtain rfl : args = #[v0, v1, v2, v3] := by cases args; simp_all
  obtain ⟨rfl, rfl⟩ := trodVars_none hV
  obtain ⟨a0, rfl, rfl, rfl, w0⟩ := open_int Try.underlying3 (hval 0 3 v0 rfl rfl) h0
  obtain ⟨a1, rfl, rfl, rfl, w1⟩ := open_int Try.underlying3 (hval 1 3 v1 rfl rfl) h1
  obtain ⟨a2, rfl, rfl, rfl, w2⟩ := open_int Try.underlying3 (hval 2 3 v2 rfl rfl) h2
  obtain ⟨a3, rfl, rfl, rfl, w3⟩ := open_int Try.underlying3 (hval 3 3 v3 rfl rfl) h3
  clear hA0 hval0
  refine (walk a0 a1 a2 a3 W w0 w1 w2 w3).mono fun e W' ⟨he, bel⟩ => ?_
  subst he
  exact ⟨_, rfl, _, _, _, [], _, [], hW', trodAll_mk1 (shut_bool Try.underlying4 _), (trodAll_cons_mk (shut_int Try.underlying3 w0) (trodAll_cons_mk (shut_int Try.underlying3 w1) (trodAll_cons_mk (shut_int Try.underlying3 w2) (trodAll_cons_mk (shut_int Try.underlying3 w3) trodAll_mk0)))), rfl, bel.frame _, fun h => by cases h⟩

theorem over : Rows.verPairsRow.holds Try.pinned (OpenSpec.ofChange Rows.verPairsSpec) :=
  OpenClaim.holds_of_wide 8 Try.f8 rfl rfl rfl rfl rfl rfl rfl ⟨rfl, rfl, rfl, rfl, rfl⟩ rfl rfl rfl rfl rfl (by kernel_rfl) Try.func8 (by kernel_rfl)
    (of_decide_eq_true (by kernel_rfl)) (by unfold Func.isWrapper; first | (rw [if_pos (by decide +kernel)]; kernel_rfl) | (rw [if_neg (by decide +kernel)]; exact ⟨rfl, rfl⟩))
    (fun os started H enc _ => lifted os started H enc)

/-- The statement. -/
theorem proved : Rows.VerPairsSaid := over
#print axioms proved
end Go.Proofs.Ytcmmmacndedikaa.verPairs
