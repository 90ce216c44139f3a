/- The contract of lockgateref13.Busy: what it answers of the first len numbers of a row, the world left as it is. -/
import Derived.Test.YtcmmmacndedikaaMark
import Derived.Lib.Hide
import Derived.Outline
namespace Go.Proofs.Ytcmmmacndedikaa.busy
open Go.ChangeShapes Go.WideShapes Go.ChangeAt Go.RowKit

def busyN (zs : List Int) (h l : Int) : Nat → Bool
  | 0 => false
  | k + 1 => if h ≤ zs.getD k 0 then true else if zs.getD k 0 ≤ l then false else busyN zs h l k

theorem busyN_hit (zs : List Int) (h l : Int) (k : Nat) (h1 : h ≤ zs[k]?.getD 0) : busyN zs h l (k + 1) = true := by
  simp [busyN, List.getD_eq_getElem?_getD, h1]
theorem busyN_low (zs : List Int) (h l : Int) (k : Nat) (h1 : zs[k]?.getD 0 < h) (h2 : zs[k]?.getD 0 ≤ l) : busyN zs h l (k + 1) = false := by
  rw [busyN, List.getD_eq_getElem?_getD, if_neg (by omega), if_pos h2]
theorem busyN_on (zs : List Int) (h l : Int) (k : Nat) (h1 : zs[k]?.getD 0 < h) (h2 : l < zs[k]?.getD 0) : busyN zs h l (k + 1) = busyN zs h l k := by
  rw [busyN, List.getD_eq_getElem?_getD, if_neg (by omega), if_neg (by omega)]

theorem ret_bool {a b : Bool} (h : a = b) : Ending.returned (.bool a) = .returned (.bool b) := by rw [h]

theorem busy_nil (h l : Int) (w : World) :
    Calls Try.prog 14 #[.slice none 0 0, .int .i64 h, .int .i64 l] w fun e w' => e = .returned (.bool false) ∧ w = w' := by
  go_enter Try.func14, Try.ntmps14
  go_wp2
  go_loop [7] (fun i => i = .int .i64 (-1)) (fun _ => 0)
  case atStart => rfl
  case round =>
    subst hrel
    go_wp2
    go_ret
    exact ⟨rfl, rfl⟩

set_option maxHeartbeats 400000 in
theorem busy_any (x : Addr) (len cap : Nat) (zs : List Int) (h l : Int) (w : World) (hl : len ≤ zs.length) (hm : len ≤ 9223372036854775807)
    (hc : ∀ i, i < zs.length → w.cell? (x.add i) = some (.int .i64 (zs.getD i 0))) :
    Calls Try.prog 14 #[.slice (some x) len cap, .int .i64 h, .int .i64 l] w fun e w' => e = .returned (.bool (busyN zs h l len)) ∧ w = w' := by
  have HC := Lib.hid hc
  clear hc
  go_enter Try.func14, Try.ntmps14
  go_wp2
  go_loop [7] (fun i => ∃ k : Nat, k ≤ len ∧ i = .int .i64 (k - 1) ∧ busyN zs h l len = busyN zs h l k) (fun i => (intOf i + 1).toNat)
  case atStart => exact ⟨len, Nat.le_refl _, by simp, rfl⟩
  case round =>
    obtain ⟨k, hk, rfl, hb⟩ := hrel
    have HB := Lib.hid hb
    clear hb
    cases k with
    | zero =>
      go_wp2
      go_ret
      exact ⟨ret_bool (by rw [HB.out]; rfl), rfl⟩
    | succ k =>
      have hcell := HC.out k (by omega)
      have e1 : ((k + 1 : Nat) : Int) - 1 = (k : Int) := by omega
      rw [e1]
      clear e1
      go_wp2
      · have h1 : h ≤ zs[k]?.getD 0 := by assumption
        go_ret
        exact ⟨ret_bool (by rw [HB.out, busyN_hit zs h l k h1]), rfl⟩
      · have h1 : zs[k]?.getD 0 < h := by assumption
        have h2 : zs[k]?.getD 0 ≤ l := by assumption
        go_ret
        exact ⟨ret_bool (by rw [HB.out, busyN_low zs h l k h1 h2]), rfl⟩
      · have h1 : zs[k]?.getD 0 < h := by assumption
        have h2 : l < zs[k]?.getD 0 := by assumption
        refine ⟨⟨k, by omega, rfl, by rw [HB.out, busyN_on zs h l k h1 h2]⟩, by simp [intOf]⟩
end Go.Proofs.Ytcmmmacndedikaa.busy
