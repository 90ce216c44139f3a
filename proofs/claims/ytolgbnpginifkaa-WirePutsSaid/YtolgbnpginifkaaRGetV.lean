/- The contract of lockgateref03.GetVer. -/
import Derived.Test.YtolgbnpginifkaaRGet
namespace Go.Proofs.Ytolgbnpginifkaa.rget
open Go.ChangeShapes Go.WideShapes Go.ChangeAt Go.RowKit codec st groups get
set_option linter.unusedVariables false

set_option maxRecDepth 100000 in
theorem ver_any (v : Value) (l : List UInt8) (at_ : Nat) (w : World) (hR : Rd w v l) (ha : at_ ≤ 9223372036854775000) (hl : l.length ≤ 9223372036854000000) :
    Calls Try.prog 28 #[v, .int .i64 at_] w fun e w' => e = .returned (vV (getV l at_)) ∧ w = w' := by
  have G := int_any v l at_ w hR ha (by omega)
  cases hr : getI l at_ with
  | none =>
    have hg : Hid (getV l at_ = none) := Lib.hid (by unfold getV; rw [hr])
    rw [hr] at G
    clear hr
    go_enter Try.func28, Try.ntmps28
    go_wp2_with fail
    refine G.mono ?_
    rintro r w' ⟨rfl, rfl⟩
    simp only [vI]
    go_wp2_with fail
    go_ret3
    exact ⟨by rw [hg.out]; rfl, rfl⟩
  | some p =>
    obtain ⟨n, nx⟩ := p
    obtain ⟨b1, b2, b3, b4⟩ := getI_le hr
    have G2 := int_any v l nx w hR (by omega) (by omega)
    cases hr2 : getI l nx with
    | none =>
      have hg : Hid (getV l at_ = none) := Lib.hid (by unfold getV; rw [hr]; simp only [hr2]; split <;> rfl)
      rw [hr] at G
      rw [hr2] at G2
      clear hr hr2
      go_enter Try.func28, Try.ntmps28
      go_wp2_with fail
      refine G.mono ?_
      rintro r w' ⟨rfl, rfl⟩
      simp only [vI]
      go_wp2_with fail
      refine G2.mono ?_
      rintro r w' ⟨rfl, rfl⟩
      simp only [vI]
      go_wp2_with fail
      go_ret3
      exact ⟨by rw [hg.out]; rfl, rfl⟩
    | some q =>
      obtain ⟨m, ny⟩ := q
      obtain ⟨d1, d2, d3, d4⟩ := getI_le hr2
      cases hf : fit n
      · have hg : Hid (getV l at_ = none) := Lib.hid (by unfold getV; rw [hr]; simp only [hf]; rfl)
        have hf : Hid (ver.fitsB n = false) := Lib.hid hf
        rw [hr] at G
        rw [hr2] at G2
        clear hr hr2
        go_enter Try.func28, Try.ntmps28
        go_wp2_with fail
        refine G.mono ?_
        rintro r w' ⟨rfl, rfl⟩
        simp only [vI]
        go_wp2_with fail
        refine G2.mono ?_
        rintro r w' ⟨rfl, rfl⟩
        simp only [vI]
        go_wp2_with fail
        refine (ver.fits_any _ _).mono ?_
        rintro r w' ⟨rfl, rfl⟩
        rw [hf.out]
        go_wp2_with fail
        go_ret3
        exact ⟨by rw [hg.out]; rfl, rfl⟩
      · cases hf2 : fit m
        · have hg : Hid (getV l at_ = none) := Lib.hid (by unfold getV; rw [hr]; simp only [hf, hr2, hf2]; rfl)
          have hf : Hid (ver.fitsB n = true) := Lib.hid hf
          have hf2 : Hid (ver.fitsB m = false) := Lib.hid hf2
          rw [hr] at G
          rw [hr2] at G2
          clear hr hr2
          go_enter Try.func28, Try.ntmps28
          go_wp2_with fail
          refine G.mono ?_
          rintro r w' ⟨rfl, rfl⟩
          simp only [vI]
          go_wp2_with fail
          refine G2.mono ?_
          rintro r w' ⟨rfl, rfl⟩
          simp only [vI]
          go_wp2_with fail
          refine (ver.fits_any _ _).mono ?_
          rintro r w' ⟨rfl, rfl⟩
          rw [hf.out]
          go_wp2_with fail
          refine (ver.fits_any _ _).mono ?_
          rintro r w' ⟨rfl, rfl⟩
          rw [hf2.out]
          go_wp2_with fail
          go_ret3
          exact ⟨by rw [hg.out]; rfl, rfl⟩
        · have hg : Hid (getV l at_ = some ((n, m), ny)) := Lib.hid (by unfold getV; rw [hr]; simp only [hf, hr2, hf2]; rfl)
          have hf : Hid (ver.fitsB n = true) := Lib.hid hf
          have hf2 : Hid (ver.fitsB m = true) := Lib.hid hf2
          rw [hr] at G
          rw [hr2] at G2
          clear hr hr2
          go_enter Try.func28, Try.ntmps28
          go_wp2_with fail
          refine G.mono ?_
          rintro r w' ⟨rfl, rfl⟩
          simp only [vI]
          go_wp2_with fail
          refine G2.mono ?_
          rintro r w' ⟨rfl, rfl⟩
          simp only [vI]
          go_wp2_with fail
          refine (ver.fits_any _ _).mono ?_
          rintro r w' ⟨rfl, rfl⟩
          rw [hf.out]
          go_wp2_with fail
          refine (ver.fits_any _ _).mono ?_
          rintro r w' ⟨rfl, rfl⟩
          rw [hf2.out]
          go_wp2_with fail
          refine (ver.rmake_any _ _ _).mono ?_
          rintro r w' ⟨rfl, rfl⟩
          go_wp2_with fail
          go_ret3
          exact ⟨by rw [hg.out]; rfl, rfl⟩

end Go.Proofs.Ytolgbnpginifkaa.rget
