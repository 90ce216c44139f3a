/- lockgatelaw03.awake answers true. -/
import Derived.Test.YtolgbnpginifkaaRef
import Derived.Test.YtolgbnpginifkaaRGetV
import Derived.Test.YtolgbnpginifkaaLit
namespace Go.Proofs.Ytolgbnpginifkaa.awake3
open Go.ChangeShapes Go.WideShapes Go.ChangeAt Go.RowKit codec st put ref get
set_option linter.unusedVariables false

theorem k1 : getI [128, 0] 0 = none := by decide
theorem k2 : getI [9, 128, 1] 1 = some (64, 3) := by decide
theorem k3 : (([] : List UInt8) ++ putI (-1) = [1]) = True := eq_true (by decide)
theorem k4 : (([] : List UInt8) ++ putI 64 = [128, 1]) = True := eq_true (by decide)
theorem k5 : (([7] : List UInt8) ++ putT [97, 98] = [7, 4, 97, 98]) = True := eq_true (by decide)

set_option maxRecDepth 100000 in
theorem awake_any (w : World) : Calls Try.prog 12 #[] w (Says w true) := by
  go_enter Try.func12, Try.ntmps12
  go_wp2_with fail
  refine (get.int_any _ [128, 0] 0 _ (Has.lit _ [128, 0] _ _ 2 _ rfl rfl (by decide) (by simp)).rd (by omega) (by decide)).mono ?_
  rintro r w' ⟨rfl, rfl⟩
  rw [k1]
  simp only [vI]
  go_wp2_with fail
  refine (get.int_any _ [9, 128, 1] 1 _ (Has.lit _ [9, 128, 1] _ _ 3 _ rfl rfl (by decide) (by simp)).rd (by omega) (by decide)).mono ?_
  rintro r w' ⟨rfl, rfl⟩
  rw [k2]
  simp only [vI]
  go_wp2_with fail
  refine (put.int_any _ [] (-1) _ (Has.nil _) (by omega) (by omega) (by decide)).mono ?_
  rintro r w1 ⟨v1, rfl, p1⟩
  go_wp2_with fail
  refine (same_any _ _ _ [1] _ (p1.has.alloc _).rd (Has.lit _ [1] _ _ 1 _ rfl rfl (by decide) (by simp)).rd).mono ?_
  rintro r w2 ⟨rfl, hb2⟩
  simp only [k3, decide_true]
  go_wp2_with fail
  refine (put.int_any _ [] 64 _ (Has.nil _) (by omega) (by omega) (by decide)).mono ?_
  rintro r w3 ⟨v3, rfl, p3⟩
  go_wp2_with fail
  refine (same_any _ _ _ [128, 1] _ (p3.has.alloc _).rd (Has.lit _ [128, 1] _ _ 2 _ rfl rfl (by decide) (by simp)).rd).mono ?_
  rintro r w4 ⟨rfl, hb4⟩
  simp only [k4, decide_true]
  go_wp2_with fail
  refine (put.text_any _ [7] ⟨#[97, 98]⟩ _ (Has.lit _ [7] _ _ 1 _ rfl rfl (by decide) (by simp)) (by decide) (by decide)).mono ?_
  rintro r w5 ⟨v5, rfl, p5⟩
  go_wp2_with fail
  refine (same_any _ _ _ [7, 4, 97, 98] _ (p5.has.alloc _).rd (Has.lit _ [7, 4, 97, 98] _ _ 4 _ rfl rfl (by decide) (by simp)).rd).mono ?_
  rintro r w6 ⟨rfl, hb6⟩
  simp only [k5, decide_true]
  go_wp2_with fail
  go_ret
  have s1 := St.ofNil (St.alloc (St.alloc (St.start w) _) _) p1
  have s2 := (s1.alloc _).quiet hb2
  have s3 := s2.ofNil p3
  have s4 := (s3.alloc _).quiet hb4
  have s5 := (s4.lit' [7] _ _ 1 _ rfl rfl (by decide) (by simp)).app0 p5
  have s6 := (s5.alloc _).quiet hb6
  exact ⟨rfl, s6.bel⟩

end Go.Proofs.Ytolgbnpginifkaa.awake3
