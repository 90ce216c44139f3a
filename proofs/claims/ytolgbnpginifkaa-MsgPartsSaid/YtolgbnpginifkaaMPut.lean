/- The contract of msg.Put at the message that lockgatelaw06.awake writes. -/
import Derived.Test.YtolgbnpginifkaaMRefD
import Derived.Test.YtolgbnpginifkaaAwakeE
namespace Go.Proofs.Ytolgbnpginifkaa.mput
open Go.ChangeShapes Go.WideShapes Go.ChangeAt Go.RowKit codec st own put ref get blk rep ent msgd entget entput entref minto mref
set_option linter.unusedVariables false

def N0 : List Int := [3, 100, 1, 0, 0, 0, 0, 0, 0, 0, 0, 0]
def m0 : MsD := ⟨N0, false, false, [], [], (0, 0), (0, 0), ⟨0, [], [], [], false⟩, [], [], [], ⟨(0, 0), (0, 0), 0, [], []⟩⟩
theorem zInt : floatToIntVal .f64 0 .i64 = some 0 := by
  have h := flt.toInt_F 0 (by omega) (by omega)
  rw [awake5.zBits] at h
  exact h

set_option maxRecDepth 100000 in
theorem plE_any (v0 F : Value) (l : List UInt8) (w : World) (h : Has w v0 l) (hl : l.length ≤ 100000) : Calls Try.prog 83 #[v0, .slice none 0 0, F] w (PutsTo w v0 (l ++ putI 0)) := by
  go_enter Try.func83, Try.ntmps83
  go_wp2_with fail
  refine (put.int_any v0 l 0 _ h (by omega) (by omega) (by omega)).mono ?_
  rintro r w1 ⟨v1, rfl, p1⟩
  go_wp2_with fail
  go_loopw [0, 15] (fun v i wr => v = v1 ∧ i = .int .i64 0 ∧ wr = w1) (fun _ _ _ => 0)
  case atStart => exact ⟨rfl, rfl, rfl⟩
  case round =>
    obtain ⟨rfl, rfl, rfl⟩ := hrel
    go_wp2_with fail
    go_ret
    exact ⟨_, rfl, p1⟩

set_option maxRecDepth 100000 in
theorem plMem_any (v0 F : Value) (l : List UInt8) (w : World) (h : Has w v0 l) (hl : l.length ≤ 100000) : Calls Try.prog 84 #[v0, .slice none 0 0, F] w (PutsTo w v0 (l ++ putI 0)) := by
  go_enter Try.func84, Try.ntmps84
  go_wp2_with fail
  refine (put.int_any v0 l 0 _ h (by omega) (by omega) (by omega)).mono ?_
  rintro r w1 ⟨v1, rfl, p1⟩
  go_wp2_with fail
  go_loopw [0, 15] (fun v i wr => v = v1 ∧ i = .int .i64 0 ∧ wr = w1) (fun _ _ _ => 0)
  case atStart => exact ⟨rfl, rfl, rfl⟩
  case round =>
    obtain ⟨rfl, rfl, rfl⟩ := hrel
    go_wp2_with fail
    go_ret
    exact ⟨_, rfl, p1⟩

set_option maxRecDepth 100000 in
theorem plVw_any (v0 F : Value) (l : List UInt8) (w : World) (h : Has w v0 l) (hl : l.length ≤ 100000) : Calls Try.prog 86 #[v0, .slice none 0 0, F] w (PutsTo w v0 (l ++ putI 0)) := by
  go_enter Try.func86, Try.ntmps86
  go_wp2_with fail
  refine (put.int_any v0 l 0 _ h (by omega) (by omega) (by omega)).mono ?_
  rintro r w1 ⟨v1, rfl, p1⟩
  go_wp2_with fail
  go_loopw [0, 15] (fun v i wr => v = v1 ∧ i = .int .i64 0 ∧ wr = w1) (fun _ _ _ => 0)
  case atStart => exact ⟨rfl, rfl, rfl⟩
  case round =>
    obtain ⟨rfl, rfl, rfl⟩ := hrel
    go_wp2_with fail
    go_ret
    exact ⟨_, rfl, p1⟩

set_option maxRecDepth 100000 in
theorem plSn_any (v0 F : Value) (l : List UInt8) (w : World) (h : Has w v0 l) (hl : l.length ≤ 100000) : Calls Try.prog 96 #[v0, .slice none 0 0, F] w (PutsTo w v0 (l ++ putI 0)) := by
  go_enter Try.func96, Try.ntmps96
  go_wp2_with fail
  refine (put.int_any v0 l 0 _ h (by omega) (by omega) (by omega)).mono ?_
  rintro r w1 ⟨v1, rfl, p1⟩
  go_wp2_with fail
  go_loopw [0, 15] (fun v i wr => v = v1 ∧ i = .int .i64 0 ∧ wr = w1) (fun _ _ _ => 0)
  case atStart => exact ⟨rfl, rfl, rfl⟩
  case round =>
    obtain ⟨rfl, rfl, rfl⟩ := hrel
    go_wp2_with fail
    go_ret
    exact ⟨_, rfl, p1⟩

set_option maxRecDepth 100000 in
theorem img0_any (v0 : Value) (l : List UInt8) (w : World) (h : Has w v0 l) (hl : l.length ≤ 10000) :
    Calls Try.prog 88 #[v0, .agg #[.complex .f64 0 0, .complex .f64 0 0, .int .i64 0, .slice none 0 0, .slice none 0 0]] w (PutsTo w v0 (l ++ putV 0 0 ++ putV 0 0 ++ putI 0 ++ putI 0 ++ putI 0)) := by
  have e1 : (putV 0 0).length = 2 := by decide
  have e2 : (putI 0).length = 1 := by decide
  have kb := Blk.new w [.complex .f64 0 0, .complex .f64 0 0, .int .i64 0, .slice none 0 0, .slice none 0 0] 62
  have ps := PS.start h [.complex .f64 0 0, .complex .f64 0 0, .int .i64 0, .slice none 0 0, .slice none 0 0] 62
  have hw0 : Below w.heap.size w (w.alloc (.cells #[.complex .f64 0 0, .complex .f64 0 0, .int .i64 0, .slice none 0 0, .slice none 0 0] 62)) := (Below.refl _ _).alloc (Nat.le_refl _) _
  go_enter Try.func88, Try.ntmps88
  go_wp2_with fail
  refine (put.ver_any _ (l) _ _ 0 0 _ zInt zInt ps.puts.has (by omega) (by omega) (by omega) (by omega) (by omega)).mono ?_
  rintro r w0 ⟨v0, rfl, p0⟩
  have ps := ps.step p0
  have c1 := ps.blk.cell (j := 1) rfl
  go_wp2_with fail
  refine (put.ver_any _ (l ++ putV 0 0) _ _ 0 0 _ zInt zInt ps.puts.has (by omega) (by omega) (by omega) (by omega) (by simp only [List.length_append]; omega)).mono ?_
  rintro r w1 ⟨v1, rfl, p1⟩
  have ps := ps.step p1
  have c2 := ps.blk.cell (j := 2) rfl
  go_wp2_with fail
  refine (put.int_any _ (l ++ putV 0 0 ++ putV 0 0) 0 _ ps.puts.has (by omega) (by omega) (by simp only [List.length_append]; omega)).mono ?_
  rintro r w2 ⟨v2, rfl, p2⟩
  have ps := ps.step p2
  have c3 := ps.blk.cell (j := 3) rfl
  go_wp2_with fail
  refine (plE_any _ _ (l ++ putV 0 0 ++ putV 0 0 ++ putI 0) _ ps.puts.has (by simp only [List.length_append]; omega)).mono ?_
  rintro r w3 ⟨v3, rfl, p3⟩
  have ps := ps.step p3
  have c4 := ps.blk.cell (j := 4) rfl
  go_wp2_with fail
  refine (plSn_any _ _ (l ++ putV 0 0 ++ putV 0 0 ++ putI 0 ++ putI 0) _ ps.puts.has (by simp only [List.length_append]; omega)).mono ?_
  rintro r w4 ⟨v4, rfl, p4⟩
  have ps := ps.step p4
  go_wp2_with fail
  go_ret
  exact ⟨_, rfl, ps.puts⟩

theorem ix0 (w : World) : (Instr.index 143 (.agg #[.int .i64 3, .int .i64 100, .int .i64 1, .int .i64 0, .int .i64 0, .int .i64 0, .int .i64 0, .int .i64 0, .int .i64 0, .int .i64 0, .int .i64 0, .int .i64 0]) (.int .i64 0)).run Try.prog w = .ok (.int .i64 3) w := by kernel_rfl
theorem ix1 (w : World) : (Instr.index 143 (.agg #[.int .i64 3, .int .i64 100, .int .i64 1, .int .i64 0, .int .i64 0, .int .i64 0, .int .i64 0, .int .i64 0, .int .i64 0, .int .i64 0, .int .i64 0, .int .i64 0]) (.int .i64 1)).run Try.prog w = .ok (.int .i64 100) w := by kernel_rfl
theorem ix2 (w : World) : (Instr.index 143 (.agg #[.int .i64 3, .int .i64 100, .int .i64 1, .int .i64 0, .int .i64 0, .int .i64 0, .int .i64 0, .int .i64 0, .int .i64 0, .int .i64 0, .int .i64 0, .int .i64 0]) (.int .i64 2)).run Try.prog w = .ok (.int .i64 1) w := by kernel_rfl
theorem ix3 (w : World) : (Instr.index 143 (.agg #[.int .i64 3, .int .i64 100, .int .i64 1, .int .i64 0, .int .i64 0, .int .i64 0, .int .i64 0, .int .i64 0, .int .i64 0, .int .i64 0, .int .i64 0, .int .i64 0]) (.int .i64 3)).run Try.prog w = .ok (.int .i64 0) w := by kernel_rfl
theorem ix4 (w : World) : (Instr.index 143 (.agg #[.int .i64 3, .int .i64 100, .int .i64 1, .int .i64 0, .int .i64 0, .int .i64 0, .int .i64 0, .int .i64 0, .int .i64 0, .int .i64 0, .int .i64 0, .int .i64 0]) (.int .i64 4)).run Try.prog w = .ok (.int .i64 0) w := by kernel_rfl
theorem ix5 (w : World) : (Instr.index 143 (.agg #[.int .i64 3, .int .i64 100, .int .i64 1, .int .i64 0, .int .i64 0, .int .i64 0, .int .i64 0, .int .i64 0, .int .i64 0, .int .i64 0, .int .i64 0, .int .i64 0]) (.int .i64 5)).run Try.prog w = .ok (.int .i64 0) w := by kernel_rfl
theorem ix6 (w : World) : (Instr.index 143 (.agg #[.int .i64 3, .int .i64 100, .int .i64 1, .int .i64 0, .int .i64 0, .int .i64 0, .int .i64 0, .int .i64 0, .int .i64 0, .int .i64 0, .int .i64 0, .int .i64 0]) (.int .i64 6)).run Try.prog w = .ok (.int .i64 0) w := by kernel_rfl
theorem ix7 (w : World) : (Instr.index 143 (.agg #[.int .i64 3, .int .i64 100, .int .i64 1, .int .i64 0, .int .i64 0, .int .i64 0, .int .i64 0, .int .i64 0, .int .i64 0, .int .i64 0, .int .i64 0, .int .i64 0]) (.int .i64 7)).run Try.prog w = .ok (.int .i64 0) w := by kernel_rfl
theorem ix8 (w : World) : (Instr.index 143 (.agg #[.int .i64 3, .int .i64 100, .int .i64 1, .int .i64 0, .int .i64 0, .int .i64 0, .int .i64 0, .int .i64 0, .int .i64 0, .int .i64 0, .int .i64 0, .int .i64 0]) (.int .i64 8)).run Try.prog w = .ok (.int .i64 0) w := by kernel_rfl
theorem ix9 (w : World) : (Instr.index 143 (.agg #[.int .i64 3, .int .i64 100, .int .i64 1, .int .i64 0, .int .i64 0, .int .i64 0, .int .i64 0, .int .i64 0, .int .i64 0, .int .i64 0, .int .i64 0, .int .i64 0]) (.int .i64 9)).run Try.prog w = .ok (.int .i64 0) w := by kernel_rfl
theorem ix10 (w : World) : (Instr.index 143 (.agg #[.int .i64 3, .int .i64 100, .int .i64 1, .int .i64 0, .int .i64 0, .int .i64 0, .int .i64 0, .int .i64 0, .int .i64 0, .int .i64 0, .int .i64 0, .int .i64 0]) (.int .i64 10)).run Try.prog w = .ok (.int .i64 0) w := by kernel_rfl
theorem ix11 (w : World) : (Instr.index 143 (.agg #[.int .i64 3, .int .i64 100, .int .i64 1, .int .i64 0, .int .i64 0, .int .i64 0, .int .i64 0, .int .i64 0, .int .i64 0, .int .i64 0, .int .i64 0, .int .i64 0]) (.int .i64 11)).run Try.prog w = .ok (.int .i64 0) w := by kernel_rfl
theorem nx0 : nums (N0.take 0) ++ putI 3 = nums (N0.take 1) := by rfl
theorem nx1 : nums (N0.take 1) ++ putI 100 = nums (N0.take 2) := by rfl
theorem nx2 : nums (N0.take 2) ++ putI 1 = nums (N0.take 3) := by rfl
theorem nx3 : nums (N0.take 3) ++ putI 0 = nums (N0.take 4) := by rfl
theorem nx4 : nums (N0.take 4) ++ putI 0 = nums (N0.take 5) := by rfl
theorem nx5 : nums (N0.take 5) ++ putI 0 = nums (N0.take 6) := by rfl
theorem nx6 : nums (N0.take 6) ++ putI 0 = nums (N0.take 7) := by rfl
theorem nx7 : nums (N0.take 7) ++ putI 0 = nums (N0.take 8) := by rfl
theorem nx8 : nums (N0.take 8) ++ putI 0 = nums (N0.take 9) := by rfl
theorem nx9 : nums (N0.take 9) ++ putI 0 = nums (N0.take 10) := by rfl
theorem nx10 : nums (N0.take 10) ++ putI 0 = nums (N0.take 11) := by rfl
theorem nx11 : nums (N0.take 11) ++ putI 0 = nums (N0.take 12) := by rfl

def mC : List Value := [.int .i64 3, .int .i64 100, .int .i64 1, .int .i64 0, .int .i64 0, .int .i64 0, .int .i64 0, .int .i64 0, .int .i64 0, .int .i64 0, .int .i64 0, .int .i64 0, .bool false, .bool false, .string ⟨#[]⟩, .string ⟨#[]⟩, .complex .f64 0 0, .complex .f64 0 0, .int .i64 0, .string ⟨#[]⟩, .string ⟨#[]⟩, .string ⟨#[]⟩, .bool false, .slice none 0 0, .slice none 0 0, .slice none 0 0, .complex .f64 0 0, .complex .f64 0 0, .int .i64 0, .slice none 0 0, .slice none 0 0]
/-- Some of the numbers are put. -/
def At0 (w : World) (b : Nat) (v i : Value) (wr : World) : Prop := ∃ k : Nat, i = .int .i64 k ∧ k ≤ 12 ∧ PS w b mC (.slice none 0 0) v (nums (N0.take k)) wr

set_option maxRecDepth 100000 in
set_option maxHeartbeats 20000000 in
theorem put0_any (w : World) : Calls Try.prog 57 #[.agg #[.int .i64 3, .int .i64 100, .int .i64 1, .int .i64 0, .int .i64 0, .int .i64 0, .int .i64 0, .int .i64 0, .int .i64 0, .int .i64 0, .int .i64 0, .int .i64 0, .bool false, .bool false, .string ⟨#[]⟩, .string ⟨#[]⟩, .complex .f64 0 0, .complex .f64 0 0, .int .i64 0, .string ⟨#[]⟩, .string ⟨#[]⟩, .string ⟨#[]⟩, .bool false, .slice none 0 0, .slice none 0 0, .slice none 0 0, .complex .f64 0 0, .complex .f64 0 0, .int .i64 0, .slice none 0 0, .slice none 0 0]] w (PutsTo w (.slice none 0 0) (putMs m0)) := by
  have ps0 := PS.start (Has.nil w) mC 64
  go_enter Try.func57, Try.ntmps57
  go_wp2_with fail
  go_loopw [3, 31] (fun v i wr => At0 w w.heap.size v i wr) (fun _ i _ => 12 - (intOf i).toNat)
  case atStart => exact ⟨0, rfl, by omega, ps0⟩
  case round =>
    obtain ⟨k, rfl, hk, ps⟩ := hrel
    have hk : k = 0 ∨ k = 1 ∨ k = 2 ∨ k = 3 ∨ k = 4 ∨ k = 5 ∨ k = 6 ∨ k = 7 ∨ k = 8 ∨ k = 9 ∨ k = 10 ∨ k = 11 ∨ k = 12 := by omega
    rcases hk with rfl | rfl | rfl | rfl | rfl | rfl | rfl | rfl | rfl | rfl | rfl | rfl | rfl
    · have ix := ix0
      go_wp2_with fail
      refine (put.int_any _ _ 3 _ ps.puts.has (by omega) (by omega) (by decide)).mono ?_
      rintro r w1 ⟨v1, rfl, p1⟩
      have ps1 := ps.step p1
      rw [nx0] at ps1
      go_wp2_with fail
      go_roundw
      case rel => exact ⟨1, rfl, by omega, ps1⟩
      case measure => simp [intOf]
    · have ix := ix1
      go_wp2_with fail
      refine (put.int_any _ _ 100 _ ps.puts.has (by omega) (by omega) (by decide)).mono ?_
      rintro r w1 ⟨v1, rfl, p1⟩
      have ps1 := ps.step p1
      rw [nx1] at ps1
      go_wp2_with fail
      go_roundw
      case rel => exact ⟨2, rfl, by omega, ps1⟩
      case measure => simp [intOf]
    · have ix := ix2
      go_wp2_with fail
      refine (put.int_any _ _ 1 _ ps.puts.has (by omega) (by omega) (by decide)).mono ?_
      rintro r w1 ⟨v1, rfl, p1⟩
      have ps1 := ps.step p1
      rw [nx2] at ps1
      go_wp2_with fail
      go_roundw
      case rel => exact ⟨3, rfl, by omega, ps1⟩
      case measure => simp [intOf]
    · have ix := ix3
      go_wp2_with fail
      refine (put.int_any _ _ 0 _ ps.puts.has (by omega) (by omega) (by decide)).mono ?_
      rintro r w1 ⟨v1, rfl, p1⟩
      have ps1 := ps.step p1
      rw [nx3] at ps1
      go_wp2_with fail
      go_roundw
      case rel => exact ⟨4, rfl, by omega, ps1⟩
      case measure => simp [intOf]
    · have ix := ix4
      go_wp2_with fail
      refine (put.int_any _ _ 0 _ ps.puts.has (by omega) (by omega) (by decide)).mono ?_
      rintro r w1 ⟨v1, rfl, p1⟩
      have ps1 := ps.step p1
      rw [nx4] at ps1
      go_wp2_with fail
      go_roundw
      case rel => exact ⟨5, rfl, by omega, ps1⟩
      case measure => simp [intOf]
    · have ix := ix5
      go_wp2_with fail
      refine (put.int_any _ _ 0 _ ps.puts.has (by omega) (by omega) (by decide)).mono ?_
      rintro r w1 ⟨v1, rfl, p1⟩
      have ps1 := ps.step p1
      rw [nx5] at ps1
      go_wp2_with fail
      go_roundw
      case rel => exact ⟨6, rfl, by omega, ps1⟩
      case measure => simp [intOf]
    · have ix := ix6
      go_wp2_with fail
      refine (put.int_any _ _ 0 _ ps.puts.has (by omega) (by omega) (by decide)).mono ?_
      rintro r w1 ⟨v1, rfl, p1⟩
      have ps1 := ps.step p1
      rw [nx6] at ps1
      go_wp2_with fail
      go_roundw
      case rel => exact ⟨7, rfl, by omega, ps1⟩
      case measure => simp [intOf]
    · have ix := ix7
      go_wp2_with fail
      refine (put.int_any _ _ 0 _ ps.puts.has (by omega) (by omega) (by decide)).mono ?_
      rintro r w1 ⟨v1, rfl, p1⟩
      have ps1 := ps.step p1
      rw [nx7] at ps1
      go_wp2_with fail
      go_roundw
      case rel => exact ⟨8, rfl, by omega, ps1⟩
      case measure => simp [intOf]
    · have ix := ix8
      go_wp2_with fail
      refine (put.int_any _ _ 0 _ ps.puts.has (by omega) (by omega) (by decide)).mono ?_
      rintro r w1 ⟨v1, rfl, p1⟩
      have ps1 := ps.step p1
      rw [nx8] at ps1
      go_wp2_with fail
      go_roundw
      case rel => exact ⟨9, rfl, by omega, ps1⟩
      case measure => simp [intOf]
    · have ix := ix9
      go_wp2_with fail
      refine (put.int_any _ _ 0 _ ps.puts.has (by omega) (by omega) (by decide)).mono ?_
      rintro r w1 ⟨v1, rfl, p1⟩
      have ps1 := ps.step p1
      rw [nx9] at ps1
      go_wp2_with fail
      go_roundw
      case rel => exact ⟨10, rfl, by omega, ps1⟩
      case measure => simp [intOf]
    · have ix := ix10
      go_wp2_with fail
      refine (put.int_any _ _ 0 _ ps.puts.has (by omega) (by omega) (by decide)).mono ?_
      rintro r w1 ⟨v1, rfl, p1⟩
      have ps1 := ps.step p1
      rw [nx10] at ps1
      go_wp2_with fail
      go_roundw
      case rel => exact ⟨11, rfl, by omega, ps1⟩
      case measure => simp [intOf]
    · have ix := ix11
      go_wp2_with fail
      refine (put.int_any _ _ 0 _ ps.puts.has (by omega) (by omega) (by decide)).mono ?_
      rintro r w1 ⟨v1, rfl, p1⟩
      have ps1 := ps.step p1
      rw [nx11] at ps1
      go_wp2_with fail
      go_roundw
      case rel => exact ⟨12, rfl, by omega, ps1⟩
      case measure => simp [intOf]
    · have c12 := ps.blk.cell (j := 12) rfl
      go_wp2_with fail
      refine (put.bool_any _ (nums (N0.take 12)) false _ ps.puts.has (by decide)).mono ?_
      rintro r w0 ⟨v0, rfl, p0⟩
      have ps := ps.step p0
      have c13 := ps.blk.cell (j := 13) rfl
      go_wp2_with fail
      refine (put.bool_any _ (nums (N0.take 12) ++ putB false) false _ ps.puts.has (by decide)).mono ?_
      rintro r w1 ⟨v1, rfl, p1⟩
      have ps := ps.step p1
      have c14 := ps.blk.cell (j := 14) rfl
      go_wp2_with fail
      refine (put.text_any _ (nums (N0.take 12) ++ putB false ++ putB false) ⟨#[]⟩ _ ps.puts.has (by decide) (by decide)).mono ?_
      rintro r w2 ⟨v2, rfl, p2⟩
      have ps := ps.step p2
      have c15 := ps.blk.cell (j := 15) rfl
      go_wp2_with fail
      refine (put.text_any _ (nums (N0.take 12) ++ putB false ++ putB false ++ putT []) ⟨#[]⟩ _ ps.puts.has (by decide) (by decide)).mono ?_
      rintro r w3 ⟨v3, rfl, p3⟩
      have ps := ps.step p3
      have c16 := ps.blk.cell (j := 16) rfl
      go_wp2_with fail
      refine (put.ver_any _ (nums (N0.take 12) ++ putB false ++ putB false ++ putT [] ++ putT []) _ _ 0 0 _ zInt zInt ps.puts.has (by omega) (by omega) (by omega) (by omega) (by decide)).mono ?_
      rintro r w4 ⟨v4, rfl, p4⟩
      have ps := ps.step p4
      have c17 := ps.blk.cell (j := 17) rfl
      go_wp2_with fail
      refine (put.ver_any _ (nums (N0.take 12) ++ putB false ++ putB false ++ putT [] ++ putT [] ++ putV 0 0) _ _ 0 0 _ zInt zInt ps.puts.has (by omega) (by omega) (by omega) (by omega) (by decide)).mono ?_
      rintro r w5 ⟨v5, rfl, p5⟩
      have ps := ps.step p5
      have c18 := ps.blk.cell (j := 18) rfl
      have c19 := ps.blk.cell (j := 19) rfl
      have c20 := ps.blk.cell (j := 20) rfl
      have c21 := ps.blk.cell (j := 21) rfl
      have c22 := ps.blk.cell (j := 22) rfl
      go_wp2_with fail
      refine (entput.op_any _ (nums (N0.take 12) ++ putB false ++ putB false ++ putT [] ++ putT [] ++ putV 0 0 ++ putV 0 0) ⟨0, [], [], [], false⟩ _ ps.puts.has (by decide) (by decide) (by decide) (by decide) (by decide)).mono ?_
      rintro r w6 ⟨v6, rfl, p6⟩
      have ps := ps.step p6
      have c23 := ps.blk.cell (j := 23) rfl
      go_wp2_with fail
      refine (plE_any _ _ (nums (N0.take 12) ++ putB false ++ putB false ++ putT [] ++ putT [] ++ putV 0 0 ++ putV 0 0 ++ putO ⟨0, [], [], [], false⟩) _ ps.puts.has (by decide)).mono ?_
      rintro r w7 ⟨v7, rfl, p7⟩
      have ps := ps.step p7
      have c24 := ps.blk.cell (j := 24) rfl
      go_wp2_with fail
      refine (plMem_any _ _ (nums (N0.take 12) ++ putB false ++ putB false ++ putT [] ++ putT [] ++ putV 0 0 ++ putV 0 0 ++ putO ⟨0, [], [], [], false⟩ ++ putI 0) _ ps.puts.has (by decide)).mono ?_
      rintro r w8 ⟨v8, rfl, p8⟩
      have ps := ps.step p8
      have c25 := ps.blk.cell (j := 25) rfl
      go_wp2_with fail
      refine (plVw_any _ _ (nums (N0.take 12) ++ putB false ++ putB false ++ putT [] ++ putT [] ++ putV 0 0 ++ putV 0 0 ++ putO ⟨0, [], [], [], false⟩ ++ putI 0 ++ putI 0) _ ps.puts.has (by decide)).mono ?_
      rintro r w9 ⟨v9, rfl, p9⟩
      have ps := ps.step p9
      have c26 := ps.blk.cell (j := 26) rfl
      have c27 := ps.blk.cell (j := 27) rfl
      have c28 := ps.blk.cell (j := 28) rfl
      have c29 := ps.blk.cell (j := 29) rfl
      have c30 := ps.blk.cell (j := 30) rfl
      go_wp2_with fail
      refine (img0_any _ (nums (N0.take 12) ++ putB false ++ putB false ++ putT [] ++ putT [] ++ putV 0 0 ++ putV 0 0 ++ putO ⟨0, [], [], [], false⟩ ++ putI 0 ++ putI 0 ++ putI 0) _ ps.puts.has (by decide)).mono ?_
      rintro r w10 ⟨v10, rfl, p10⟩
      have ps := ps.step p10
      go_wp2_with fail
      go_ret
      refine ⟨_, rfl, ?_⟩
      have h := ps.puts
      exact h

end Go.Proofs.Ytolgbnpginifkaa.mput
