/- The contracts of those functions of lockgate/ver and lockgateref01 that the wire reaches; after XVer. -/
import Derived.Test.YtolgbnpginifkaaRows
import Derived.Test.YtolgbnpginifkaaFloat
import Derived.WalkKit
import Derived.ProofKit
import Derived.WalkLawsBesides
import Derived.Lib.Hide
import Derived.Outline
namespace Go.Proofs.Ytolgbnpginifkaa.ver
open Go.ChangeShapes Go.WideShapes Go.ChangeAt Go.RowKit flt

def fitsB (n : Int) : Bool := decide (0 ≤ n) && decide (n ≤ 1099511627776)
theorem ret_bool {a b : Bool} (h : a = b) : Ending.returned (.bool a) = .returned (.bool b) := by rw [h]
theorem ret_int {a b : Int} (h : a = b) : Ending.returned (.int .i64 a) = .returned (.int .i64 b) := by rw [h]

theorem fits_any (n : Int) (w : World) :
    Calls Try.prog 19 #[.int .i64 n] w fun e w' => e = .returned (.bool (fitsB n)) ∧ w = w' := by
  by_cases h : 0 ≤ n
  · go_enter Try.func19, Try.ntmps19
    go_wp2
    go_ret
    exact ⟨ret_bool (by simp [fitsB, h]), rfl⟩
  · go_enter Try.func19, Try.ntmps19
    go_wp2
    go_ret
    exact ⟨ret_bool (by simp only [fitsB]; rw [decide_eq_false (by omega)]; rfl), rfl⟩

theorem make_any (e n : Int) (w : World) :
    Calls Try.prog 24 #[.int .i64 e, .int .i64 n] w fun r w' => r = .returned (.complex .f64 (F e) (F n)) ∧ w = w' := by
  go_enter Try.func24, Try.ntmps24
  go_wp2
  go_ret
  exact ⟨rfl, rfl⟩

theorem rmake_any (e n : Int) (w : World) :
    Calls Try.prog 46 #[.int .i64 e, .int .i64 n] w fun r w' => r = .returned (.complex .f64 (F e) (F n)) ∧ w = w' := by
  go_enter Try.func46, Try.ntmps46
  go_wp2
  go_ret
  exact ⟨rfl, rfl⟩

theorem conv_fi (b : Nat) (n : Int) (h : floatToIntVal .f64 b .i64 = some n) (w : World) :
    (convert 81 3 (.float .f64 b)).run Try.prog w = .ok (.int .i64 n) w :=
  run_convert_float_int (P := Try.prog) w 81 3 .f64 .i64 b n (by rw [Try.underlying81]; rfl) Try.underlying3 h

theorem epoch_any (a b : Nat) (n : Int) (h : floatToIntVal .f64 a .i64 = some n) (w : World) :
    Calls Try.prog 44 #[.complex .f64 a b] w fun r w' => r = .returned (.int .i64 n) ∧ w = w' := by
  have hc := conv_fi a n h
  have H := Lib.hid h
  clear h
  go_enter Try.func44, Try.ntmps44
  go_wp2
  go_ret
  exact ⟨rfl, rfl⟩

theorem num_any (a b : Nat) (n : Int) (h : floatToIntVal .f64 b .i64 = some n) (w : World) :
    Calls Try.prog 45 #[.complex .f64 a b] w fun r w' => r = .returned (.int .i64 n) ∧ w = w' := by
  have hc := conv_fi b n h
  have H := Lib.hid h
  clear h
  go_enter Try.func45, Try.ntmps45
  go_wp2
  go_ret
  exact ⟨rfl, rfl⟩

theorem repoch_any (a b : Nat) (n : Int) (h : floatToIntVal .f64 a .i64 = some n) (w : World) :
    Calls Try.prog 81 #[.complex .f64 a b] w fun r w' => r = .returned (.int .i64 n) ∧ w = w' := by
  have hc := conv_fi a n h
  have H := Lib.hid h
  clear h
  go_enter Try.func81, Try.ntmps81
  go_wp2
  go_ret
  exact ⟨rfl, rfl⟩

theorem rnum_any (a b : Nat) (n : Int) (h : floatToIntVal .f64 b .i64 = some n) (w : World) :
    Calls Try.prog 82 #[.complex .f64 a b] w fun r w' => r = .returned (.int .i64 n) ∧ w = w' := by
  have hc := conv_fi b n h
  have H := Lib.hid h
  clear h
  go_enter Try.func82, Try.ntmps82
  go_wp2
  go_ret
  exact ⟨rfl, rfl⟩

theorem eq_refl_F (n : Int) (h : 0 ≤ n) (hb : n < 9007199254740992) : (FloatKind.f64.format.order (F n) (F n) == some Ordering.eq) = true := by
  rw [order_F n n h (by omega) h (by omega)]
  simp

theorem eqF (a c : Int) (ha : 0 ≤ a) (ha' : a < 9007199254740992) (hc : 0 ≤ c) (hc' : c < 9007199254740992) :
    (FloatKind.f64.format.order (F a) (F c) == some Ordering.eq) = decide (a = c) := by
  rw [order_F a c ha (by omega) hc (by omega)]
  rcases Int.lt_trichotomy a c with h | h | h
  · rw [Int.compare_eq_lt.2 h, decide_eq_false (by omega)]; rfl
  · subst h; simp
  · rw [Int.compare_eq_gt.2 h, decide_eq_false (by omega)]; rfl

end Go.Proofs.Ytolgbnpginifkaa.ver
