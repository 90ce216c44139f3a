/- For every two ints and every two strings, WireUnlike returns true and leaves its arguments as they were. No conditions. -/
import Derived.Test.YtolgbnpginifkaaRows
import Derived.WalkKit
import Derived.ProofKit
import Derived.OpenShut
import Derived.ShutString
import Derived.ChangeOld
import Derived.Below
import Derived.Laws.Cover2
import Derived.Test.YtolgbnpginifkaaAwakeC
namespace Go.Proofs.Ytolgbnpginifkaa.wireUnlike
open Go.ChangeShapes Go.WideShapes Go.ChangeAt Go.RowKit
open Go.ChangeMaps (open_string shut_string)
set_option linter.unusedVariables false

theorem own : ownKnob Try.prog.godebug = none := by kernel_rfl
theorem laidOut : laidOutB Try.prog = true := by kernel_rfl

open codec st put ref get
theorem beginsI {a b : Int} (ha : (Lit.int .i64 a).wf = true) (hb : (Lit.int .i64 b).wf = true) : decide ([] ++ putI a = ([] ++ putI b).take ([] ++ putI a).length) = decide (a = b) := by
  have ha := bounds_i64 ha
  have hb := bounds_i64 hb
  by_cases h : a = b
  · subst h; simp
  · rw [decide_eq_false h]
    refine decide_eq_false (fun e => h ?_)
    simp only [List.nil_append] at e
    have e2 := List.take_append_drop (putI a).length (putI b)
    rw [← e] at e2
    exact putI_begins ha hb e2.symm
theorem beginsT {s t : List UInt8} (hs : s.length ≤ 65536) (ht : t.length ≤ 65536) : decide ([] ++ putT s = ([] ++ putT t).take ([] ++ putT s).length) = decide (s = t) := by
  by_cases h : s = t
  · subst h; simp
  · rw [decide_eq_false h]
    refine decide_eq_false (fun e => h ?_)
    simp only [List.nil_append] at e
    have e2 := List.take_append_drop (putT s).length (putT t)
    rw [← e] at e2
    exact putT_begins hs ht e2.symm
theorem toListData (s : ByteArray) : s.toList = s.data.toList := ByteArray.toList_eq s

theorem walk (a0 : Int) (a1 : Int) (a2 : ByteArray) (a3 : ByteArray) (w : World) (w0 : (Lit.int .i64 a0).wf = true) (w1 : (Lit.int .i64 a1).wf = true) (w2 : a2.size ≤ maxLen) (w3 : a3.size ≤ maxLen) :
    Calls Try.prog 3 #[.int .i64 a0, .int .i64 a1, .string a2, .string a3] w fun e w' => e = .returned (.bool true) ∧ Below w.heap.size w w' := by
  unfold maxLen at w2 w3
  have i0 := bounds_i64 w0
  have i1 := bounds_i64 w1
  have hl2 : a2.data.toList.length = a2.size := by simp
  have hl3 : a3.data.toList.length = a3.size := by simp
  have HL2 := Lib.hid hl2
  have HL3 := Lib.hid hl3
  clear hl2 hl3
  by_cases h2 : 5000 < a2.size
  · go_enter Try.func3, Try.ntmps3
    go_wp2_with fail
    refine (awake3.awake_any _).mono ?_
    rintro r w' ⟨rfl, hb⟩
    go_wp2_with fail
    go_ret
    exact ⟨rfl, hb⟩
  by_cases h3 : 5000 < a3.size
  · go_enter Try.func3, Try.ntmps3
    go_wp2_with fail
    refine (awake3.awake_any _).mono ?_
    rintro r w' ⟨rfl, hb⟩
    go_wp2_with fail
    go_ret
    exact ⟨rfl, hb⟩
  have b1 := Lib.hid (beginsI w0 w1)
  have b2 := Lib.hid (beginsT (s := a2.data.toList) (t := a3.data.toList) (by rw [HL2.out]; omega) (by rw [HL3.out]; omega))
  go_enter Try.func3, Try.ntmps3
  go_wp2_with fail
  refine (awake3.awake_any _).mono ?_
  rintro r v1 ⟨rfl, hb1⟩
  go_wp2_with fail
  refine (put.int_any _ [] a1 _ (Has.nil _) i1.1 i1.2 (by decide)).mono ?_
  rintro r v2 ⟨x1, rfl, p1⟩
  go_wp2_with fail
  refine (put.int_any _ [] a0 _ (Has.nil _) i0.1 i0.2 (by decide)).mono ?_
  rintro r v3 ⟨x0, rfl, p0⟩
  have s1 := St.ofNil ((St.start w).quiet hb1) p1
  have s2 := St.ofNil s1 p0
  go_wp2_with fail
  refine (begins_any _ _ _ _ _ s2.has1.rd s2.has0.rd).mono ?_
  rintro r v4 ⟨rfl, hb4⟩
  simp only [b1.out]
  go_wp2_with fail
  refine (put.text_any _ [] a3 _ (Has.nil _) (by unfold maxLen; omega) (by simp only [List.length_nil]; omega)).mono ?_
  rintro r v5 ⟨x3, rfl, p3⟩
  go_wp2_with fail
  refine (put.text_any _ [] a2 _ (Has.nil _) (by unfold maxLen; omega) (by simp only [List.length_nil]; omega)).mono ?_
  rintro r v6 ⟨x2, rfl, p2⟩
  have s3 := St.ofNil (s2.quiet hb4) p3
  have s4 := St.ofNil s3 p2
  go_wp2_with fail
  refine (begins_any _ _ _ _ _ s4.has1.rd s4.has0.rd).mono ?_
  rintro r v7 ⟨rfl, hb7⟩
  simp only [b2.out]
  have s5 := s4.quiet hb7
  by_cases h : a2.data.toList = a3.data.toList
  · have hq : (a2.toList == a3.toList) = true := by rw [toListData, toListData, h]; simp
    simp only [h, decide_true]
    clear h
    go_wp2_with fail
    go_ret
    exact ⟨rfl, s5.bel⟩
  · have hq : (a2.toList == a3.toList) = false := by rw [toListData, toListData]; simpa using h
    simp only [h, decide_false]
    clear h
    go_wp2_with fail
    go_ret
    exact ⟨rfl, s5.bel⟩

set_option maxRecDepth 100000 in
theorem lifted (os : Os) (started : os.Started) (H : Type) (enc : TypeId × Value → H) :
    ReturnsInHanded {} Try.checked os 3 .any (Rows.wireUnlikeSpec.pre6 enc Try.prog Try.f3 Rows.wireUnlikeRow.domain false) (Rows.wireUnlikeSpec.post enc Try.prog Try.f3 false true false false) := by
  refine returnsInHanded_of_change (C := Try.checked) own started (by kernel_rfl) Try.func3
    (ChangeSpec.witness6 (enc := enc) (C := Try.checked) false ⟨#[], #[.int .i64 0, .int .i64 0, .string ⟨#[]⟩, .string ⟨#[]⟩], []⟩ 8 (by kernel_rfl) (by kernel_rfl) (by kernel_rfl) (by kernel_rfl)) ?_
  intro W base args ds gs before hval0 hW hcnd _
  have hval : ∀ (j : Nat) t v, Try.f3.params[j]? = some t → args[j]? = some v → Value.okWide Try.prog W .any base t v := hval0
  have hW' := hW
  obtain ⟨p, q, hA0, hV, rfl, hfz, hnd⟩ := hW
  have hA : DataW.TrodAll enc Try.prog W 0 (fun _ => true) true Try.f3.params.toList args.toList ds p := hA0
  rw [Try.params3] at hA hval
  obtain ⟨v0, vs0, d0, ds0, p0, q0, hargs, rfl, rfl, h0, r0⟩ := trodAll_cons hA
  obtain ⟨v1, vs1, d1, ds1, p1, q1, rfl, rfl, rfl, h1, r1⟩ := trodAll_cons r0
  obtain ⟨v2, vs2, d2, ds2, p2, q2, rfl, rfl, rfl, h2, r2⟩ := trodAll_cons r1
  obtain ⟨v3, vs3, d3, ds3, p3, q3, rfl, rfl, rfl, h3, r3⟩ := trodAll_cons r2
  obtain ⟨rfl, rfl, rfl⟩ := trodAll_nil r3
  obtain rfl : args = #[v0, v1, v2, v3] := by cases args; simp_all
  obtain ⟨rfl, rfl⟩ := trodVars_none hV
  obtain ⟨a0, rfl, rfl, rfl, w0⟩ := open_int Try.underlying3 (hval 0 3 v0 rfl rfl) h0
  obtain ⟨a1, rfl, rfl, rfl, w1⟩ := open_int Try.underlying3 (hval 1 3 v1 rfl rfl) h1
  obtain ⟨a2, rfl, rfl, rfl, w2⟩ := open_string Try.underlying9 (hval 2 9 v2 rfl rfl) h2
  obtain ⟨a3, rfl, rfl, rfl, w3⟩ := open_string Try.underlying9 (hval 3 9 v3 rfl rfl) h3
  clear hA0 hval0
  refine (walk a0 a1 a2 a3 W w0 w1 w2 w3).mono fun e W' ⟨he, bel⟩ => ?_
  subst he
  exact ⟨_, rfl, _, _, _, [], _, [], hW', trodAll_mk1 (shut_bool Try.underlying4 _), (trodAll_cons_mk (shut_int Try.underlying3 w0) (trodAll_cons_mk (shut_int Try.underlying3 w1) (trodAll_cons_mk (shut_string Try.underlying9 w2) (trodAll_cons_mk (shut_string Try.underlying9 w3) trodAll_mk0)))), rfl, bel.frame _, fun h => by cases h⟩

theorem over : Rows.wireUnlikeRow.holds Try.pinned (OpenSpec.ofChange Rows.wireUnlikeSpec) :=
  OpenClaim.holds_of_wide 3 Try.f3 rfl rfl rfl rfl rfl rfl rfl ⟨rfl, rfl, rfl, rfl, rfl⟩ rfl rfl rfl rfl rfl (by kernel_rfl) Try.func3 (by kernel_rfl)
    (of_decide_eq_true (by kernel_rfl)) (by unfold Func.isWrapper; first | (rw [if_pos (by decide +kernel)]; kernel_rfl) | (rw [if_neg (by decide +kernel)]; exact ⟨rfl, rfl⟩))
    (fun os started H enc _ => lifted os started H enc)

/-- The statement. -/
theorem proved : Rows.WireUnlikeSaid := over
#print axioms proved
end Go.Proofs.Ytolgbnpginifkaa.wireUnlike
