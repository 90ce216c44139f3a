/- The contracts of mark.Next, mark.Room and the awake of layer 13: what they answer, the world left as it is. -/
import Derived.Test.YtcmmmacndedikaaRows
import Derived.WalkKit
import Derived.ProofKit
import Derived.OpenShut
namespace Go.Proofs.Ytcmmmacndedikaa.mark
open Go.ChangeShapes Go.WideShapes Go.ChangeAt Go.RowKit

def nextB (busy : Bool) (x h l : Int) : Bool := if h ≤ x then true else if x ≤ l then false else busy

theorem ret_bool {a b : Bool} (h : a = b) : Ending.returned (.bool a) = .returned (.bool b) := by rw [h]

theorem next_any (b : Bool) (x h l : Int) (w : World) :
    Calls Try.prog 12 #[.bool b, .int .i64 x, .int .i64 h, .int .i64 l] w fun e w' => e = .returned (.bool (nextB b x h l)) ∧ w = w' := by
  by_cases c1 : h ≤ x
  · go_enter Try.func12, Try.ntmps12
    go_wp2
    go_ret
    exact ⟨ret_bool (by rw [nextB, if_pos c1]), rfl⟩
  · by_cases c2 : x ≤ l
    · go_enter Try.func12, Try.ntmps12
      go_wp2
      go_ret
      exact ⟨ret_bool (by rw [nextB, if_neg (by omega), if_pos (by omega)]), rfl⟩
    · go_enter Try.func12, Try.ntmps12
      go_wp2
      go_ret
      exact ⟨ret_bool (by rw [nextB, if_neg (by omega), if_neg (by omega)]), rfl⟩

theorem awake_any (w : World) :
    Calls Try.prog 11 #[] w fun e w' => e = .returned (.bool true) ∧ w = w' := by
  go_enter Try.func11, Try.ntmps11
  go_wp2
  go_ret
  exact ⟨rfl, rfl⟩
end Go.Proofs.Ytcmmmacndedikaa.mark
