/- For every three ints, VerNext returns true and leaves its arguments as they were. No conditions. -/
import Derived.Test.YtcmmmacndedikaaRows
import Derived.WalkKit
import Derived.ProofKit
import Derived.OpenShut
import Derived.ShutString
import Derived.ChangeOld
import Derived.Below
import Derived.Laws.Cover2
import Derived.Test.YtcmmmacndedikaaVer
namespace Go.Proofs.Ytcmmmacndedikaa.verNext
open Go.ChangeShapes Go.WideShapes Go.ChangeAt Go.RowKit
open Go.ChangeMaps (open_string shut_string)
set_option linter.unusedVariables false

theorem own : ownKnob Try.prog.godebug = none := by kernel_rfl
theorem laidOut : laidOutB Try.prog = true := by kernel_rfl

open ver flt
theorem fits_bounds {n : Int} (h : fitsB n = true) : 0 ≤ n ∧ n ≤ 1099511627776 := by
  simpa [fitsB] using h

theorem walk (a0 : Int) (a1 : Int) (a2 : Int) (w : World) (w0 : (Lit.int .i64 a0).wf = true) (w1 : (Lit.int .i64 a1).wf = true) (w2 : (Lit.int .i64 a2).wf = true) :
    Calls Try.prog 10 #[.int .i64 a0, .int .i64 a1, .int .i64 a2] w fun e w' => e = .returned (.bool true) ∧ Below w.heap.size w w' := by
  have fin : ∀ w : World, Below w.heap.size w w := fun w => Below.refl _ _
  cases h0 : fitsB a0
  · have H0 := Lib.hid h0
    clear h0
    go_enter Try.func10, Try.ntmps10
    go_wp2_with fail
    refine (fits_any _ _).mono ?_
    rintro r w' ⟨rfl, rfl⟩
    rw [H0.out]
    go_wp2_with fail
    refine (awake_any _).mono ?_
    rintro r w' ⟨rfl, rfl⟩
    go_wp2_with fail
    go_ret
    exact ⟨rfl, fin _⟩
  cases h1 : fitsB a1
  · have H0 := Lib.hid h0
    have H1 := Lib.hid h1
    clear h0 h1
    go_enter Try.func10, Try.ntmps10
    go_wp2_with fail
    refine (fits_any _ _).mono ?_
    rintro r w' ⟨rfl, rfl⟩
    rw [H0.out]
    go_wp2_with fail
    refine (fits_any _ _).mono ?_
    rintro r w' ⟨rfl, rfl⟩
    rw [H1.out]
    go_wp2_with fail
    refine (awake_any _).mono ?_
    rintro r w' ⟨rfl, rfl⟩
    go_wp2_with fail
    go_ret
    exact ⟨rfl, fin _⟩
  cases h2 : fitsB a2
  · have H0 := Lib.hid h0
    have H1 := Lib.hid h1
    have H2 := Lib.hid h2
    clear h0 h1 h2
    go_enter Try.func10, Try.ntmps10
    go_wp2_with fail
    refine (fits_any _ _).mono ?_
    rintro r w' ⟨rfl, rfl⟩
    rw [H0.out]
    go_wp2_with fail
    refine (fits_any _ _).mono ?_
    rintro r w' ⟨rfl, rfl⟩
    rw [H1.out]
    go_wp2_with fail
    refine (fits_any _ _).mono ?_
    rintro r w' ⟨rfl, rfl⟩
    rw [H2.out]
    go_wp2_with fail
    refine (awake_any _).mono ?_
    rintro r w' ⟨rfl, rfl⟩
    go_wp2_with fail
    go_ret
    exact ⟨rfl, fin _⟩
  obtain ⟨b0, b0'⟩ := fits_bounds h0
  obtain ⟨b1, b1'⟩ := fits_bounds h1
  obtain ⟨b2, b2'⟩ := fits_bounds h2
  have H0 := Lib.hid h0
  have H1 := Lib.hid h1
  have H2 := Lib.hid h2
  clear h0 h1 h2
  by_cases c1 : a2 < a0
  · go_enter Try.func10, Try.ntmps10
    go_wp2_with fail
    refine (fits_any _ _).mono ?_
    rintro r w' ⟨rfl, rfl⟩
    rw [H0.out]
    go_wp2_with fail
    refine (fits_any _ _).mono ?_
    rintro r w' ⟨rfl, rfl⟩
    rw [H1.out]
    go_wp2_with fail
    refine (fits_any _ _).mono ?_
    rintro r w' ⟨rfl, rfl⟩
    rw [H2.out]
    go_wp2_with fail
    refine (awake_any _).mono ?_
    rintro r w' ⟨rfl, rfl⟩
    go_wp2_with fail
    go_ret
    exact ⟨rfl, fin _⟩
  by_cases c2 : a1 = 1099511627776
  · have c2' : (a1 == 1099511627776) = true := by simp [c2]
    have C2 := Lib.hid c2
    clear c2
    go_enter Try.func10, Try.ntmps10
    go_wp2_with fail
    refine (fits_any _ _).mono ?_
    rintro r w' ⟨rfl, rfl⟩
    rw [H0.out]
    go_wp2_with fail
    refine (fits_any _ _).mono ?_
    rintro r w' ⟨rfl, rfl⟩
    rw [H1.out]
    go_wp2_with fail
    refine (fits_any _ _).mono ?_
    rintro r w' ⟨rfl, rfl⟩
    rw [H2.out]
    go_wp2_with fail
    refine (awake_any _).mono ?_
    rintro r w' ⟨rfl, rfl⟩
    go_wp2_with fail
    go_ret
    exact ⟨rfl, fin _⟩
  have c2' : (a1 == 1099511627776) = false := by simp [c2]
  have b3 : a1 < 1099511627776 := by omega
  have ad := Lib.hid (add_F a1 b1 (by omega))
  have q2 := eq_refl_F a2 b2 (by omega)
  have q3 := eq_refl_F (a1 + 1) (by omega) (by omega)
  have h1 := Lib.hid (show aheadB (F a0) (F a1) (F a2) (F (a1 + 1)) = true by
    rw [aheadF a0 a1 a2 (a1 + 1) b0 (by omega) b1 (by omega) b2 (by omega) (by omega) (by omega)]
    unfold raheadB
    by_cases h : a0 = a2
    · rw [if_pos h]; exact decide_eq_true (by omega)
    · rw [if_neg h]; exact decide_eq_true (by omega))
  have h2 := Lib.hid (show aheadB (F a2) (F (a1 + 1)) (F a0) (F a1) = false by
    rw [aheadF a2 (a1 + 1) a0 a1 b2 (by omega) (by omega) (by omega) b0 (by omega) b1 (by omega)]
    unfold raheadB
    by_cases h : a2 = a0
    · rw [if_pos h]; exact decide_eq_false (by omega)
    · rw [if_neg h]; exact decide_eq_false (by omega))
  clear c2
  go_enter Try.func10, Try.ntmps10
  go_wp2_with fail
  refine (fits_any _ _).mono ?_
  rintro r w' ⟨rfl, rfl⟩
  rw [H0.out]
  go_wp2_with fail
  refine (fits_any _ _).mono ?_
  rintro r w' ⟨rfl, rfl⟩
  rw [H1.out]
  go_wp2_with fail
  refine (fits_any _ _).mono ?_
  rintro r w' ⟨rfl, rfl⟩
  rw [H2.out]
  go_wp2_with fail
  refine (make_any _ _ _).mono ?_
  rintro r w' ⟨rfl, rfl⟩
  go_wp2_with fail
  refine (next_any _ _ _ _ ad.out _).mono ?_
  rintro r w' ⟨rfl, rfl⟩
  go_wp2_with fail
  refine (awake_any _).mono ?_
  rintro r w' ⟨rfl, rfl⟩
  go_wp2_with fail
  refine (rmake_any _ _ _).mono ?_
  rintro r w' ⟨rfl, rfl⟩
  go_wp2_with fail
  refine (ahead_any _ _ _ _ _).mono ?_
  rintro r w' ⟨rfl, rfl⟩
  rw [h1.out]
  go_wp2_with fail
  refine (ahead_any _ _ _ _ _).mono ?_
  rintro r w' ⟨rfl, rfl⟩
  rw [h2.out]
  go_wp2_with fail
  go_ret
  exact ⟨rfl, fin _⟩

set_option maxRecDepth 100000 in
theorem lifted (os : Os) (started : os.Started) (H : Type) (enc : TypeId × Value → H) :
    ReturnsInHanded {} Try.checked os 10 .any (Rows.verNextSpec.pre6 enc Try.prog Try.f10 Rows.verNextRow.domain false) (Rows.verNextSpec.post enc Try.prog Try.f10 false true false false) := by
  refine returnsInHanded_of_change (C := Try.checked) own started (by kernel_rfl) Try.func10
    (ChangeSpec.witness6 (enc := enc) (C := Try.checked) false ⟨#[], #[.int .i64 0, .int .i64 0, .int .i64 0], []⟩ 8 (by kernel_rfl) (by kernel_rfl) (by kernel_rfl) (by kernel_rfl)) ?_
  intro W base args ds gs before hval0 hW hcnd _
  have hval : ∀ (j : Nat) t v, Try.f10.params[j]? = some t → args[j]? = some v → Value.okWide Try.prog W .any base t v := hval0
  have hW' := hW
  obtain ⟨p, q, hA0, hV, rfl, hfz, hnd⟩ := hW
  have hA : DataW.TrodAll enc Try.prog W 0 (fun _ => true) true Try.f10.params.toList args.toList ds p := hA0
  rw [Try.params10] at hA hval
  obtain ⟨v0, vs0, d0, ds0, p0, q0, hargs, rfl, rfl, h0, r0⟩ := trodAll_cons hA
  obtain ⟨v1, vs1, d1, ds1, p1, q1, rfl, rfl, rfl, h1, r1⟩ := trodAll_cons r0
  obtain ⟨v2, vs2, d2, ds2, p2, q2, rfl, rfl, rfl, h2, r2⟩ := trodAll_cons r1
  obtain ⟨rfl, rfl, rfl⟩ := trodAll_nil r2
  obtain rfl : args = #[v0, v1, v2] := by cases args; simp_all
  obtain ⟨rfl, rfl⟩ := trodVars_none hV
  obtain ⟨a0, rfl, rfl, rfl, w0⟩ := open_int Try.underlying3 (hval 0 3 v0 rfl rfl) h0
  obtain ⟨a1, rfl, rfl, rfl, w1⟩ := open_int Try.underlying3 (hval 1 3 v1 rfl rfl) h1
  obtain ⟨a2, rfl, rfl, rfl, w2⟩ := open_int Try.underlying3 (hval 2 3 v2 rfl rfl) h2
  clear hA0 hval0
  refine (walk a0 a1 a2 W w0 w1 w2).mono fun e W' ⟨he, bel⟩ => ?_
  subst he
  exact ⟨_, rfl, _, _, _, [], _, [], hW', trodAll_mk1 (shut_bool Try.underlying4 _), (trodAll_cons_mk (shut_int Try.underlying3 w0) (trodAll_cons_mk (shut_int Try.underlying3 w1) (trodAll_cons_mk (shut_int Try.underlying3 w2) trodAll_mk0))), rfl, bel.frame _, fun h => by cases h⟩

theorem over : Rows.verNextRow.holds Try.pinned (OpenSpec.ofChange Rows.verNextSpec) :=
  OpenClaim.holds_of_wide 10 Try.f10 rfl rfl rfl rfl rfl rfl rfl ⟨rfl, rfl, rfl, rfl, rfl⟩ rfl rfl rfl rfl rfl (by kernel_rfl) Try.func10 (by kernel_rfl)
    (of_decide_eq_true (by kernel_rfl)) (by unfold Func.isWrapper; first | (rw [if_pos (by decide +kernel)]; kernel_rfl) | (rw [if_neg (by decide +kernel)]; exact ⟨rfl, rfl⟩))
    (fun os started H enc _ => lifted os started H enc)

/-- The statement. -/
theorem proved : Rows.VerNextSaid := over
#print axioms proved
end Go.Proofs.Ytcmmmacndedikaa.verNext
