/- The contract of wire.GetVer. -/
import Derived.Test.YtolgbnpginifkaaGet
namespace Go.Proofs.Ytolgbnpginifkaa.get
open Go.ChangeShapes Go.WideShapes Go.ChangeAt Go.RowKit codec st groups
set_option linter.unusedVariables false

theorem fit_bounds {n : Int} (h : fit n = true) : 0 ≤ n ∧ n ≤ 1099511627776 := by
  unfold fit at h
  simp only [Bool.and_eq_true, decide_eq_true_eq] at h
  exact h
theorem fit_not {n : Int} (h : fit n = false) : n < 0 ∨ 1099511627776 < n := by
  unfold fit at h
  by_cases h1 : n < 0
  · exact .inl h1
  · right
    apply Int.not_le.1
    intro h2
    rw [decide_eq_true (by omega), decide_eq_true h2] at h
    cases h

set_option maxRecDepth 100000 in
theorem ver_any (v : Value) (l : List UInt8) (at_ : Nat) (w : World) (hR : Rd w v l) (ha : at_ ≤ 9223372036854775000) (hl : l.length ≤ 9223372036854000000) :
    Calls Try.prog 27 #[v, .int .i64 at_] w fun e w' => e = .returned (vV (getV l at_)) ∧ w = w' := by
  have G := int_any v l at_ w hR ha (by omega)
  cases hr : getI l at_ with
  | none =>
    have hg : Hid (getV l at_ = none) := Lib.hid (by unfold getV; rw [hr])
    rw [hr] at G
    clear hr
    go_enter Try.func27, Try.ntmps27
    go_wp2_with fail
    refine G.mono ?_
    rintro r w' ⟨rfl, rfl⟩
    simp only [vI]
    go_wp2_with fail
    go_ret3
    exact ⟨by rw [hg.out]; rfl, rfl⟩
  | some p =>
    obtain ⟨n, nx⟩ := p
    obtain ⟨b1, b2, b3, b4⟩ := getI_le hr
    cases hf : fit n
    · have hg : Hid (getV l at_ = none) := Lib.hid (by unfold getV; rw [hr]; simp only [hf]; rfl)
      have hb := fit_not hf
      rw [hr] at G
      clear hr hf
      by_cases h0 : n < 0
      · clear hb
        go_enter Try.func27, Try.ntmps27
        go_wp2_with fail
        refine G.mono ?_
        rintro r w' ⟨rfl, rfl⟩
        simp only [vI]
        go_wp2_with fail
        go_ret3
        exact ⟨by rw [hg.out]; rfl, rfl⟩
      · have h1 : 1099511627776 < n := by omega
        clear hb
        go_enter Try.func27, Try.ntmps27
        go_wp2_with fail
        refine G.mono ?_
        rintro r w' ⟨rfl, rfl⟩
        simp only [vI]
        go_wp2_with fail
        go_ret3
        exact ⟨by rw [hg.out]; rfl, rfl⟩
    · have hb := fit_bounds hf
      obtain ⟨h0, h1⟩ := hb
      have G2 := int_any v l nx w hR (by omega) (by omega)
      cases hr2 : getI l nx with
      | none =>
        have hg : Hid (getV l at_ = none) := Lib.hid (by unfold getV; rw [hr]; simp only [hf, hr2]; rfl)
        rw [hr] at G
        rw [hr2] at G2
        clear hr hr2 hf
        go_enter Try.func27, Try.ntmps27
        go_wp2_with fail
        refine G.mono ?_
        rintro r w' ⟨rfl, rfl⟩
        simp only [vI]
        go_wp2_with fail
        refine G2.mono ?_
        rintro r w' ⟨rfl, rfl⟩
        simp only [vI]
        go_wp2_with fail
        go_ret3
        exact ⟨by rw [hg.out]; rfl, rfl⟩
      | some q =>
        obtain ⟨m, ny⟩ := q
        obtain ⟨d1, d2, d3, d4⟩ := getI_le hr2
        cases hf2 : fit m
        · have hg : Hid (getV l at_ = none) := Lib.hid (by unfold getV; rw [hr]; simp only [hf, hr2, hf2]; rfl)
          have hb := fit_not hf2
          rw [hr] at G
          rw [hr2] at G2
          clear hr hr2 hf hf2
          by_cases h2 : m < 0
          · clear hb
            go_enter Try.func27, Try.ntmps27
            go_wp2_with fail
            refine G.mono ?_
            rintro r w' ⟨rfl, rfl⟩
            simp only [vI]
            go_wp2_with fail
            refine G2.mono ?_
            rintro r w' ⟨rfl, rfl⟩
            simp only [vI]
            go_wp2_with fail
            go_ret3
            exact ⟨by rw [hg.out]; rfl, rfl⟩
          · have h3 : 1099511627776 < m := by omega
            clear hb
            go_enter Try.func27, Try.ntmps27
            go_wp2_with fail
            refine G.mono ?_
            rintro r w' ⟨rfl, rfl⟩
            simp only [vI]
            go_wp2_with fail
            refine G2.mono ?_
            rintro r w' ⟨rfl, rfl⟩
            simp only [vI]
            go_wp2_with fail
            go_ret3
            exact ⟨by rw [hg.out]; rfl, rfl⟩
        · have hg : Hid (getV l at_ = some ((n, m), ny)) := Lib.hid (by unfold getV; rw [hr]; simp only [hf, hr2, hf2]; rfl)
          have hb := fit_bounds hf2
          obtain ⟨h2, h3⟩ := hb
          rw [hr] at G
          rw [hr2] at G2
          clear hr hr2 hf hf2
          go_enter Try.func27, Try.ntmps27
          go_wp2_with fail
          refine G.mono ?_
          rintro r w' ⟨rfl, rfl⟩
          simp only [vI]
          go_wp2_with fail
          refine G2.mono ?_
          rintro r w' ⟨rfl, rfl⟩
          simp only [vI]
          go_wp2_with fail
          refine (ver.make_any _ _ _).mono ?_
          rintro r w' ⟨rfl, rfl⟩
          go_wp2_with fail
          go_ret3
          exact ⟨by rw [hg.out]; rfl, rfl⟩

end Go.Proofs.Ytolgbnpginifkaa.get
