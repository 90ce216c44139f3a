/- For every two slices of bytes, every int and every string, WireBack returns true and leaves its arguments as they were. No conditions. -/
import Derived.Test.YtolgbnpginifkaaRows
import Derived.WalkKit
import Derived.ProofKit
import Derived.OpenShut
import Derived.ShutString
import Derived.ChangeOld
import Derived.Below
import Derived.Laws.Cover2
import Derived.Test.YtolgbnpginifkaaAwakeC
import Derived.Test.YtolgbnpginifkaaMix
namespace Go.Proofs.Ytolgbnpginifkaa.wireBack
open Go.ChangeShapes Go.WideShapes Go.ChangeAt Go.RowKit
open Go.ChangeMaps (open_string shut_string)
set_option linter.unusedVariables false

theorem own : ownKnob Try.prog.godebug = none := by kernel_rfl
theorem laidOut : laidOutB Try.prog = true := by kernel_rfl

/-- What the walk is told of a slice of integers that came in: it is nil; or it leads to a row of 'cap' cells, the numbers 'zs' (the first 'len' are its elements, the rest its spare room), each fitting its kind. -/
def IsRow (k : IntKind) (w : World) (a : Option Addr) (len cap : Nat) (zs : List Int) : Prop :=
  (a = none ∧ len = 0 ∧ cap = 0 ∧ zs = []) ∨
  ∃ x, a = some x ∧ len ≤ cap ∧ cap ≤ maxLen ∧ zs.length = cap ∧ (∀ i, i < zs.length → w.cell? (x.add i) = some (.int k (zs.getD i 0))) ∧ ∀ n ∈ zs, (Lit.int k n).wf = true

open codec st put ref get
theorem back1 (lo lm : List UInt8) (n : Int) (s : List UInt8) (hn : -9223372036854775808 ≤ n ∧ n ≤ 9223372036854775807) :
    getI (((([] ++ lo) ++ putI n) ++ putT s) ++ lm) lo.length = some (n, ([] ++ lo ++ putI n).length) := by
  have := getI_put lo (putT s ++ lm) n hn.1 hn.2
  simp only [List.nil_append, List.append_assoc, List.length_append] at this ⊢
  exact this
theorem back2 (lo lm : List UInt8) (n : Int) (s : List UInt8) (hs : s.length ≤ 65536) :
    getT (((([] ++ lo) ++ putI n) ++ putT s) ++ lm) ([] ++ lo ++ putI n).length = some (s, ([] ++ lo ++ putI n ++ putT s).length) := by
  have := getT_put (lo ++ putI n) lm s hs
  simp only [List.nil_append, List.append_assoc, List.length_append] at this ⊢
  rw [this]
  simp only [Option.some.injEq, Prod.mk.injEq, true_and]
  omega
theorem toListData (s : ByteArray) : s.toList = s.data.toList := ByteArray.toList_eq s
theorem capLe {w : World} {a : Option Addr} {n cap : Nat} {l : List UInt8} (h : Rd w (.slice a n cap) l) : n ≤ cap ∧ cap ≤ 9223372036854775807 := by
  obtain ⟨a', cap', e, h1, h2, _⟩ := h
  simp only [Value.slice.injEq] at e
  obtain ⟨rfl, rfl, rfl⟩ := e
  unfold maxLen at h2
  exact ⟨h1, by omega⟩

set_option maxRecDepth 100000 in
set_option maxHeartbeats 1000000 in
theorem walk (a0 : Option Addr) (len0 cap0 : Nat) (z0 : List Int) (a1 : Int) (a2 : ByteArray) (a3 : Option Addr) (len3 cap3 : Nat) (z3 : List Int) (w : World) (w0 : IsRow .u8 w a0 len0 cap0 z0) (w1 : (Lit.int .i64 a1).wf = true) (w2 : a2.size ≤ maxLen) (w3 : IsRow .u8 w a3 len3 cap3 z3) :
    Calls Try.prog 4 #[.slice a0 len0 cap0, .int .i64 a1, .string a2, .slice a3 len3 cap3] w fun e w' => e = .returned (.bool true) ∧ Below w.heap.size w w' := by
  unfold maxLen at w2
  have i1 := bounds_i64 w1
  obtain ⟨lo, rfl, ro⟩ := Rd.ofRow w0
  obtain ⟨lm, rfl, rm⟩ := Rd.ofRow w3
  clear w0 w3
  have hl2 : a2.data.toList.length = a2.size := by simp
  have HL2 := Lib.hid hl2
  clear hl2
  by_cases h2 : 5000 < a2.size
  · go_enter Try.func4, Try.ntmps4
    go_wp2_with fail
    refine (awake3.awake_any _).mono ?_
    rintro r w' ⟨rfl, hb⟩
    go_wp2_with fail
    go_ret
    exact ⟨rfl, hb⟩
  by_cases h0 : 5000 < lo.length
  · go_enter Try.func4, Try.ntmps4
    go_wp2_with fail
    refine (awake3.awake_any _).mono ?_
    rintro r w' ⟨rfl, hb⟩
    go_wp2_with fail
    go_ret
    exact ⟨rfl, hb⟩
  by_cases h3 : 5000 < lm.length
  · go_enter Try.func4, Try.ntmps4
    go_wp2_with fail
    refine (awake3.awake_any _).mono ?_
    rintro r w' ⟨rfl, hb⟩
    go_wp2_with fail
    go_ret
    exact ⟨rfl, hb⟩
  obtain ⟨j0, hi, hz0, hz1, hz2⟩ := info_parts info_u8
  have HI := Lib.hid hi
  clear hi
  have RO := Lib.hid ro
  have RM := Lib.hid rm
  clear ro rm
  have b1 := Lib.hid (back1 lo lm a1 a2.data.toList i1)
  have b2 := Lib.hid (back2 lo lm a1 a2.data.toList (by rw [HL2.out]; omega))
  have hp1 := gr_len9 a1
  have hp2 := gr_len9 a2.data.toList.length
  have HP2 := Lib.hid (show (putT a2.data.toList).length = (putI a2.data.toList.length).length + a2.size by unfold putT; rw [List.length_append, HL2.out])
  have s1 := (St.start w).lit' [] #[] 5 0 _ rfl rfl (by decide) rfl
  go_enter Try.func4, Try.ntmps4
  go_wp2_with (at_builtin; refine wpList_put rfl _ _ _ _ rfl 5 j0 Try.underlying24 HI.out hz0 hz1 hz2 rfl s1.has0 _ lo rfl (((s1.old RO.out)).src Try.underlying24) (by simp only [List.length_nil]; omega) ?_; intro v' w' hq)
  refine (put.int_any v' _ a1 _ hq.has i1.1 i1.2 (by simp only [List.nil_append]; omega)).mono ?_
  rintro r v2 ⟨x2, rfl, p2⟩
  have s2 := (s1.app0 hq).app0 p2
  obtain ⟨ax, cx, hx⟩ := p2.has.len
  obtain ⟨mid, hmid⟩ : ∃ m, m = ([] ++ lo ++ putI a1).length := ⟨_, rfl⟩
  rw [← hmid] at hx
  have b2' := b2.out
  rw [← hmid] at b2'
  have b1' := b1.out
  rw [← hmid] at b1'
  have hmb : mid ≤ 5010 := by rw [hmid]; simp only [List.nil_append, List.length_append]; omega
  have HMID := Lib.hid hmid
  clear hmid b1 b2
  have B1 := Lib.hid b1'
  have B2 := Lib.hid b2'
  clear b1' b2'
  subst hx
  go_wp2_with fail
  refine (put.text_any _ _ a2 _ p2.has (by unfold maxLen; omega) (by rw [← HMID.out]; omega)).mono ?_
  rintro r v3 ⟨x3, rfl, p3⟩
  have s3 := s2.app0 p3
  obtain ⟨ay, cy, hy⟩ := p3.has.len
  obtain ⟨fin, hfin⟩ : ∃ m, m = ([] ++ lo ++ putI a1 ++ putT a2.data.toList).length := ⟨_, rfl⟩
  rw [← hfin] at hy
  have b2' := B2.out
  rw [← hfin] at b2'
  have hfb : fin ≤ 10030 := by rw [hfin, List.length_append, ← HMID.out, HP2.out]; omega
  have HFIN := Lib.hid hfin
  clear hfin B2
  have B2 := Lib.hid b2'
  clear b2'
  subst hy
  go_wp2_with (at_builtin; refine wpList_put rfl _ _ _ _ rfl 5 j0 Try.underlying24 HI.out hz0 hz1 hz2 rfl s3.has0 _ lm rfl (((s3.old RM.out)).src Try.underlying24) (by rw [← HFIN.out]; omega) ?_; intro v4 w4 q4)
  have s4 := s3.app0 q4
  refine (get.int_any v4 _ lo.length _ q4.has.rd (by omega) (by rw [List.length_append, ← HFIN.out]; omega)).mono ?_
  rintro r w5 ⟨rfl, rfl⟩
  rw [B1.out]
  simp only [vI]
  go_wp2_with fail
  refine (get.text_any v4 _ mid _ q4.has.rd (by omega) (by rw [List.length_append, ← HFIN.out]; omega)).mono ?_
  rintro r w5 ⟨rfl, rfl⟩
  rw [B2.out]
  simp only [vT, strEta]
  go_wp2_with fail
  refine (get.int_any _ lm 0 _ (s4.old RM.out) (by omega) (by omega)).mono ?_
  rintro r w5 ⟨rfl, rfl⟩
  cases hr : getI lm 0 with
  | none =>
    simp only [vI]
    clear hr
    go_wp2_with fail
    refine mix.wp_region_mix (fun _ => True) mix.noOper [([], 0), ([1, 2, 3, 4, 5, 7, 8, 9], 6), ([], 10)] [11, 12, 13] (by kernel_rfl) (by kernel_rfl) (fun _ _ _ d _ h => by cases d <;> exact h) ?_ ?_
    · trivial
    rw [mix.wpMix_cons]
    simp only [List.map_nil, List.getD_cons_zero]
    refine wpQuiet_nil ?_
    refine mix.callAt_step (by rfl) (fun K hK => ?_)
    go_simp
    refine (awake3.awake_any _).mono ?_
    rintro r w9 ⟨rfl, hb9⟩
    go_wp2_with fail
    refine ⟨trivial, ?_⟩
    rw [mix.wpMix_cons]
    simp only [List.map_cons, List.map_nil, List.getD_cons_succ, List.getD_cons_zero]
    repeat (go_big_quiet_step (fail))
    refine wpQuiet_nil ?_
    refine mix.callAt_skip (by rfl) ⟨trivial, ?_⟩
    simp only [Act.put, List.setIfInBounds_toArray, List.set_cons_zero, List.set_cons_succ]
    rw [mix.wpMix_cons]
    simp only [List.map_nil, List.getD_cons_succ, List.getD_cons_zero]
    refine wpQuiet_nil ?_
    refine mix.callAt_skip (by rfl) ⟨trivial, ?_⟩
    simp only [Act.put, List.setIfInBounds_toArray, List.set_cons_zero, List.set_cons_succ]
    rw [mix.wpMix_nil]
    simp only [List.map_cons, List.map_nil, List.getD_cons_succ, List.getD_cons_zero]
    repeat (go_big_quiet_step (fail))
    refine wpQuiet_nil ?_
    go_wp2
    go_ret
    exact ⟨rfl, (s4.drew.quiet hb9).bel⟩
  | some p =>
    obtain ⟨k, z⟩ := p
    simp only [vI]
    obtain ⟨d1, d2, d3, d4, d5⟩ := getI_seg hr
    have D : Hid (decide ([] ++ putI k = lm.take z) = true) := Lib.hid (decide_eq_true (by rw [List.nil_append, ← d3]; unfold seg; simp))
    clear hr d3
    obtain ⟨cl1, cl2⟩ := capLe RM.out
    go_wp2_with fail
    refine mix.wp_region_mix (fun _ => True) mix.noOper [([], 0), ([1, 2, 3, 4, 5, 7, 8, 9], 6), ([], 10)] [11, 12, 13] (by kernel_rfl) (by kernel_rfl) (fun _ _ _ d _ h => by cases d <;> exact h) ?_ ?_
    · trivial
    rw [mix.wpMix_cons]
    simp only [List.map_nil, List.getD_cons_zero]
    refine wpQuiet_nil ?_
    refine mix.callAt_step (by rfl) (fun K hK => ?_)
    go_simp
    refine (awake3.awake_any _).mono ?_
    rintro r w9 ⟨rfl, hb9⟩
    go_wp2_with fail
    refine ⟨trivial, ?_⟩
    rw [mix.wpMix_cons]
    simp only [List.map_cons, List.map_nil, List.getD_cons_succ, List.getD_cons_zero]
    repeat (go_big_quiet_step (fail))
    refine wpQuiet_nil ?_
    refine mix.callAt_step (by rfl) (fun K hK => ?_)
    go_simp
    refine (put.int_any _ [] k _ (Has.nil _) d4 d5 (by decide)).mono ?_
    rintro r w10 ⟨x10, rfl, p10⟩
    have s5 := St.ofNil (s4.drew.quiet hb9) p10
    go_wp2_with fail
    refine ⟨trivial, ?_⟩
    rw [mix.wpMix_cons]
    simp only [List.map_nil, List.getD_cons_succ, List.getD_cons_zero]
    refine wpQuiet_nil ?_
    refine mix.callAt_step (by rfl) (fun K hK => ?_)
    go_simp
    refine (same_any _ _ _ (lm.take z) _ s5.has0.rd ((s5.old RM.out).first z d2)).mono ?_
    rintro r w11 ⟨rfl, hb11⟩
    rw [D.out]
    go_wp2_with fail
    refine ⟨trivial, ?_⟩
    rw [mix.wpMix_nil]
    simp only [List.map_cons, List.map_nil, List.getD_cons_succ, List.getD_cons_zero]
    repeat (go_big_quiet_step (fail))
    refine wpQuiet_nil ?_
    go_wp2
    go_ret
    exact ⟨rfl, (s5.quiet hb11).bel⟩

set_option maxRecDepth 100000 in
theorem lifted (os : Os) (started : os.Started) (H : Type) (enc : TypeId × Value → H) :
    ReturnsInHanded {} Try.checked os 4 .any (Rows.wireBackSpec.pre6 enc Try.prog Try.f4 Rows.wireBackRow.domain false) (Rows.wireBackSpec.post enc Try.prog Try.f4 false true false false) := by
  refine returnsInHanded_of_change (C := Try.checked) own started (by kernel_rfl) Try.func4
    (ChangeSpec.witness6 (enc := enc) (C := Try.checked) false ⟨#[], #[.slice none 0 0, .int .i64 0, .string ⟨#[]⟩, .slice none 0 0], []⟩ 8 (by kernel_rfl) (by kernel_rfl) (by kernel_rfl) (by kernel_rfl)) ?_
  intro W base args ds gs before hval0 hW hcnd _
  have hval : ∀ (j : Nat) t v, Try.f4.params[j]? = some t → args[j]? = some v → Value.okWide Try.prog W .any base t v := hval0
  have hW' := hW
  obtain ⟨p, q, hA0, hV, rfl, hfz, hnd⟩ := hW
  have hA : DataW.TrodAll enc Try.prog W 0 (fun _ => true) true Try.f4.params.toList args.toList ds p := hA0
  rw [Try.params4] at hA hval
  obtain ⟨v0, vs0, d0, ds0, p0, q0, hargs, rfl, rfl, h0, r0⟩ := trodAll_cons hA
  obtain ⟨v1, vs1, d1, ds1, p1, q1, rfl, rfl, rfl, h1, r1⟩ := trodAll_cons r0
  obtain ⟨v2, vs2, d2, ds2, p2, q2, rfl, rfl, rfl, h2, r2⟩ := trodAll_cons r1
  obtain ⟨v3, vs3, d3, ds3, p3, q3, rfl, rfl, rfl, h3, r3⟩ := trodAll_cons r2
  obtain ⟨rfl, rfl, rfl⟩ := trodAll_nil r3
  obtain rfl : args = #[v0, v1, v2, v3] := by cases args; simp_all
  obtain ⟨rfl, rfl⟩ := trodVars_none hV
  obtain ⟨a0, len0, cap0, rfl⟩ := okWide_slice Try.underlying24 (hval 0 24 v0 rfl rfl)
  have k0 := h0
  have lt0 : ∀ x ∈ p0, x.block < W.heap.size := by obtain ⟨m, hm⟩ := k0; exact DataW.trod_lt m _ _ _ hm
  obtain ⟨z0, w0⟩ : ∃ zs, IsRow .u8 W a0 len0 cap0 zs := by
    obtain ⟨fuel, hf⟩ := h0
    rcases open_ints Try.underlying24 Try.underlying5 (by kernel_rfl) hf with ⟨hcs, _⟩ | ⟨x, l, c, zs, hcs, _, hl, hm, hz, _, hcell, hwz⟩
    · simp [Value.cells] at hcs
      obtain ⟨rfl, rfl, rfl⟩ := hcs
      exact ⟨[], .inl ⟨rfl, rfl, rfl, rfl⟩⟩
    · simp [Value.cells] at hcs
      obtain ⟨rfl, rfl, rfl⟩ := hcs
      exact ⟨zs, .inr ⟨_, rfl, hl, hm, by simpa using hz, hcell, hwz⟩⟩
  obtain ⟨a1, rfl, rfl, rfl, w1⟩ := open_int Try.underlying3 (hval 1 3 v1 rfl rfl) h1
  obtain ⟨a2, rfl, rfl, rfl, w2⟩ := open_string Try.underlying9 (hval 2 9 v2 rfl rfl) h2
  obtain ⟨a3, len3, cap3, rfl⟩ := okWide_slice Try.underlying24 (hval 3 24 v3 rfl rfl)
  have k3 := h3
  have lt3 : ∀ x ∈ p3, x.block < W.heap.size := by obtain ⟨m, hm⟩ := k3; exact DataW.trod_lt m _ _ _ hm
  obtain ⟨z3, w3⟩ : ∃ zs, IsRow .u8 W a3 len3 cap3 zs := by
    obtain ⟨fuel, hf⟩ := h3
    rcases open_ints Try.underlying24 Try.underlying5 (by kernel_rfl) hf with ⟨hcs, _⟩ | ⟨x, l, c, zs, hcs, _, hl, hm, hz, _, hcell, hwz⟩
    · simp [Value.cells] at hcs
      obtain ⟨rfl, rfl, rfl⟩ := hcs
      exact ⟨[], .inl ⟨rfl, rfl, rfl, rfl⟩⟩
    · simp [Value.cells] at hcs
      obtain ⟨rfl, rfl, rfl⟩ := hcs
      exact ⟨zs, .inr ⟨_, rfl, hl, hm, by simpa using hz, hcell, hwz⟩⟩
  clear hA0 hval0
  refine (walk a0 len0 cap0 z0 a1 a2 a3 len3 cap3 z3 W w0 w1 w2 w3).mono fun e W' ⟨he, bel⟩ => ?_
  subst he
  exact ⟨_, rfl, _, _, _, [], _, [], hW', trodAll_mk1 (shut_bool Try.underlying4 _), (trodAll_cons_mk (Below.trod laidOut (by kernel_rfl) (of_decide_eq_true (by kernel_rfl)) k0 bel lt0) (trodAll_cons_mk (shut_int Try.underlying3 w1) (trodAll_cons_mk (shut_string Try.underlying9 w2) (trodAll_cons_mk (Below.trod laidOut (by kernel_rfl) (of_decide_eq_true (by kernel_rfl)) k3 bel lt3) trodAll_mk0)))), rfl, bel.frame _, fun h => by cases h⟩

theorem over : Rows.wireBackRow.holds Try.pinned (OpenSpec.ofChange Rows.wireBackSpec) :=
  OpenClaim.holds_of_wide 4 Try.f4 rfl rfl rfl rfl rfl rfl rfl ⟨rfl, rfl, rfl, rfl, rfl⟩ rfl rfl rfl rfl rfl (by kernel_rfl) Try.func4 (by kernel_rfl)
    (of_decide_eq_true (by kernel_rfl)) (by unfold Func.isWrapper; first | (rw [if_pos (by decide +kernel)]; kernel_rfl) | (rw [if_neg (by decide +kernel)]; exact ⟨rfl, rfl⟩))
    (fun os started H enc _ => lifted os started H enc)

/-- The statement. -/
theorem proved : Rows.WireBackSaid := over
#print axioms proved
end Go.Proofs.Ytolgbnpginifkaa.wireBack
