/- For every slice of bytes, int, bool, string and every two ints more, WirePuts returns true and leaves its arguments as they were. No conditions. -/
import Derived.Test.YtolgbnpginifkaaRows
import Derived.WalkKit
import Derived.ProofKit
import Derived.OpenShut
import Derived.ShutString
import Derived.ChangeOld
import Derived.Below
import Derived.Laws.Cover2
import Derived.Test.YtolgbnpginifkaaAwakeC
import Derived.Test.YtolgbnpginifkaaSet
import Derived.Test.YtolgbnpginifkaaMix
namespace Go.Proofs.Ytolgbnpginifkaa.wirePuts
open Go.ChangeShapes Go.WideShapes Go.ChangeAt Go.RowKit
open Go.ChangeMaps (open_string shut_string)
set_option linter.unusedVariables false

theorem own : ownKnob Try.prog.godebug = none := by kernel_rfl
theorem laidOut : laidOutB Try.prog = true := by kernel_rfl

/-- What the walk is told of a slice of integers that came in: it is nil; or it leads to a row of 'cap' cells, the numbers 'zs' (the first 'len' are its elements, the rest its spare room), each fitting its kind. -/
def IsRow (k : IntKind) (w : World) (a : Option Addr) (len cap : Nat) (zs : List Int) : Prop :=
  (a = none ∧ len = 0 ∧ cap = 0 ∧ zs = []) ∨
  ∃ x, a = some x ∧ len ≤ cap ∧ cap ≤ maxLen ∧ zs.length = cap ∧ (∀ i, i < zs.length → w.cell? (x.add i) = some (.int k (zs.getD i 0))) ∧ ∀ n ∈ zs, (Lit.int k n).wf = true

open codec st put ref get
theorem blen' {lo : List UInt8} : (lo ++ [0] : List UInt8).length = lo.length + 1 := by simp
theorem capLe {w : World} {a : Option Addr} {n cap : Nat} {l : List UInt8} (h : Rd w (.slice a n cap) l) : n ≤ cap ∧ cap ≤ 9223372036854775807 := by
  obtain ⟨a', cap', e, h1, h2, _⟩ := h
  simp only [Value.slice.injEq] at e
  obtain ⟨rfl, rfl, rfl⟩ := e
  unfold maxLen at h2
  exact ⟨h1, by omega⟩
theorem setLast (lo : List UInt8) : (lo ++ [0]).set lo.length 1 = lo ++ [1] := by simp
theorem setTrue {B0 : Nat} {W w : World} {L : List (Value × List UInt8)} {g off cap n : Nat} {lo : List UInt8} (s : St B0 W w ((.slice (some ⟨g, off, none⟩) n cap, lo ++ [0]) :: L)) :
    St B0 W (w.setCell ⟨g, off + lo.length, none⟩ (.int .u8 1)) ((.slice (some ⟨g, off, none⟩) n cap, lo ++ putB true) :: L) := by
  have h := s.set (i := lo.length) (by simp) 1
  rw [setLast] at h
  exact h
theorem setFalse {B0 : Nat} {W w : World} {L : List (Value × List UInt8)} {v : Value} {lo : List UInt8} (s : St B0 W w ((v, lo ++ [0]) :: L)) : St B0 W w ((v, lo ++ putB false) :: L) := s
theorem verList {B0 : Nat} {W w : World} {L : List (Value × List UInt8)} {v : Value} {lo : List UInt8} {a b : Int} (s : St B0 W w ((v, lo ++ putI a ++ putI b) :: L)) : St B0 W w ((v, lo ++ putV a b) :: L) := by
  rw [List.append_assoc] at s
  exact s
theorem has4 {B0 : Nat} {W w : World} {L : List (Value × List UInt8)} {p q r t u : Value × List UInt8} (s : St B0 W w (p :: q :: r :: t :: u :: L)) : Has w u.1 u.2 := s.drop.has3
theorem putT_pos (s : List UInt8) : 0 < (putT s).length := by unfold putT; rw [List.length_append]; have : 0 < (putI s.length).length := gr_len 9 _; omega
theorem putV_pos (a b : Int) : 0 < (putV a b).length := by unfold putV; rw [List.length_append]; have : 0 < (putI a).length := gr_len 9 _; omega

set_option maxRecDepth 100000 in
set_option maxHeartbeats 4000000 in
theorem walk (a0 : Option Addr) (len0 cap0 : Nat) (z0 : List Int) (a1 : Int) (a2 : Bool) (a3 : ByteArray) (a4 : Int) (a5 : Int) (w : World) (w0 : IsRow .u8 w a0 len0 cap0 z0) (w1 : (Lit.int .i64 a1).wf = true) (w3 : a3.size ≤ maxLen) (w4 : (Lit.int .i64 a4).wf = true) (w5 : (Lit.int .i64 a5).wf = true) :
    Calls Try.prog 6 #[.slice a0 len0 cap0, .int .i64 a1, .bool a2, .string a3, .int .i64 a4, .int .i64 a5] w fun e w' => e = .returned (.bool true) ∧ Below w.heap.size w w' := by
  have i1 := bounds_i64 w1
  have i4 := bounds_i64 w4
  have i5 := bounds_i64 w5
  unfold maxLen at w3
  obtain ⟨lo, rfl, ro⟩ := Rd.ofRow w0
  clear w0
  have RO := Lib.hid ro
  clear ro
  have hl3 : a3.data.toList.length = a3.size := by simp
  have HL3 := Lib.hid hl3
  clear hl3
  by_cases h3 : 5000 < a3.size
  · skip
    go_enter Try.func6, Try.ntmps6
    go_wp2_with fail
    refine (awake3.awake_any _).mono ?_
    rintro r w' ⟨rfl, hb⟩
    go_wp2_with fail
    go_ret
    exact ⟨rfl, hb⟩
  by_cases h0 : 5000 < lo.length
  · skip
    go_enter Try.func6, Try.ntmps6
    go_wp2_with fail
    refine (awake3.awake_any _).mono ?_
    rintro r w' ⟨rfl, hb⟩
    go_wp2_with fail
    go_ret
    exact ⟨rfl, hb⟩
  cases f4 : ver.fitsB a4
  · have F4 := Lib.hid f4
    clear f4
    go_enter Try.func6, Try.ntmps6
    go_wp2_with fail
    refine (ver.fits_any _ _).mono ?_
    rintro r w' ⟨rfl, rfl⟩
    rw [F4.out]
    go_wp2_with fail
    refine (awake3.awake_any _).mono ?_
    rintro r w' ⟨rfl, hb⟩
    go_wp2_with fail
    go_ret
    exact ⟨rfl, hb⟩
  cases f5 : ver.fitsB a5
  · have F4 := Lib.hid f4
    have F5 := Lib.hid f5
    clear f4 f5
    go_enter Try.func6, Try.ntmps6
    go_wp2_with fail
    refine (ver.fits_any _ _).mono ?_
    rintro r w' ⟨rfl, rfl⟩
    rw [F4.out]
    go_wp2_with fail
    refine (ver.fits_any _ _).mono ?_
    rintro r w' ⟨rfl, rfl⟩
    rw [F5.out]
    go_wp2_with fail
    refine (awake3.awake_any _).mono ?_
    rintro r w' ⟨rfl, hb⟩
    go_wp2_with fail
    go_ret
    exact ⟨rfl, hb⟩
  have b4 := fit_bounds (show fit a4 = true from f4)
  have b5 := fit_bounds (show fit a5 = true from f5)
  have F4 := Lib.hid f4
  have F5 := Lib.hid f5
  clear f4 f5
  obtain ⟨j0, hi, hz0, hz1, hz2⟩ := info_parts info_u8
  have HI := Lib.hid hi
  clear hi
  have T4 := Lib.hid (flt.toInt_F a4 b4.1 (by omega))
  have T5 := Lib.hid (flt.toInt_F a5 b5.1 (by omega))
  have g1 := gr_len9 a1
  have g4 := gr_len9 a4
  have g5 := gr_len9 a5
  have g3 := gr_len9 a3.size
  have GT : (putT a3.data.toList).length ≤ 5010 := by unfold putT; rw [List.length_append, HL3.out]; omega
  cases a2
  · skip
    go_enter Try.func6, Try.ntmps6
    go_wp2_with fail
    refine (ver.fits_any _ _).mono ?_
    rintro r w' ⟨rfl, rfl⟩
    rw [F4.out]
    go_wp2_with fail
    refine (ver.fits_any _ _).mono ?_
    rintro r w' ⟨rfl, rfl⟩
    rw [F5.out]
    have s0 := (St.start w).nil
    go_wp2_with (first
      | (at_builtin; refine wpList_put (o := ⟨some 39, _, _, _, _, _⟩) rfl _ _ _ _ rfl 5 j0 Try.underlying24 HI.out hz0 hz1 hz2 rfl s0.has0 _ lo rfl ((s0.old RO.out).src Try.underlying24) (by first | omega | (simp; done) | (simp; omega)) ?_; intro x1 v1 q1; have s1 : St w.heap.size w v1 [(x1, lo)] := s0.app0 q1; obtain ⟨aw, cw, hx1⟩ := (show Has v1 x1 lo from s1.has0).len; subst hx1; obtain ⟨cl1, cl2⟩ := capLe s1.has0.rd; have s2 := s1.lit' [] #[] 5 0 _ rfl rfl (by decide) rfl)
      | (at_builtin; refine wpList_put (o := ⟨some 42, _, _, _, _, _⟩) rfl _ _ _ _ rfl 5 j0 Try.underlying24 HI.out hz0 hz1 hz2 rfl s2.has0 _ lo rfl (s2.has1.rd.src Try.underlying24) (by first | omega | (simp; done) | (simp; omega)) ?_; intro x2 v2 q2; have s3 : St w.heap.size w v2 [(x2, lo), (.slice aw lo.length cw, lo)] := s2.app0 q2; have hb0 := Rd.byte' v2 0 0 rfl 5 _ rfl)
      | (at_builtin; refine wpList_put (o := ⟨some 44, _, _, _, _, _⟩) rfl _ _ _ _ rfl 5 j0 Try.underlying24 HI.out hz0 hz1 hz2 rfl (s3.has0.alloc _) _ [0] rfl (hb0.src Try.underlying24) (by first | omega | (simp; done) | (simp; omega)) ?_; intro x3 v3 q3; have s4 : St w.heap.size w v3 [(x3, lo ++ [0]), (.slice aw lo.length cw, lo)] := (s3.alloc _).app0 q3; obtain ⟨a3q, cb, hx3⟩ := (show Has v3 x3 (lo ++ [0]) from s4.has0).len; rw [blen'] at hx3; subst hx3; have s5 := (setFalse s4).lit' [] #[] 5 0 _ rfl rfl (by decide) rfl)
      | (at_builtin; refine wpList_put (o := ⟨some 53, _, _, _, _, _⟩) rfl _ _ _ _ rfl 5 j0 Try.underlying24 HI.out hz0 hz1 hz2 rfl s5.has0 _ lo rfl (s5.has2.rd.src Try.underlying24) (by first | omega | (simp; done) | (simp; omega)) ?_; intro x4 v4 q4; have s6 : St w.heap.size w v4 [(x4, lo), (Value.slice a3q (lo.length + 1) cb, lo ++ putB false), (.slice aw lo.length cw, lo)] := s5.app0 q4))
    refine (rint_any a1 _ i1.1 i1.2).mono ?_
    rintro r v5 ⟨y1, rfl, p1⟩
    have s7 : St w.heap.size w v5 [(y1, putI a1), (x4, lo), (Value.slice a3q (lo.length + 1) cb, lo ++ putB false), (.slice aw lo.length cw, lo)] := s6.ofNil p1
    go_wp2_with (first
      | (at_builtin; refine wpList_put (o := ⟨some 56, _, _, _, _, _⟩) rfl _ _ _ _ rfl 5 j0 Try.underlying24 HI.out hz0 hz1 hz2 rfl s7.has1 _ (putI a1) rfl (s7.has0.rd.src Try.underlying24) (by first | omega | (simp; done) | (simp; omega)) ?_; intro x5 v6 q5; have s8 : St w.heap.size w v6 [(x5, lo ++ putI a1), (Value.slice a3q (lo.length + 1) cb, lo ++ putB false), (.slice aw lo.length cw, lo)] := (s7.app1 q5).drop; have s9 := s8.lit' [] #[] 5 0 _ rfl rfl (by decide) rfl)
      | (at_builtin; refine wpList_put (o := ⟨some 59, _, _, _, _, _⟩) rfl _ _ _ _ rfl 5 j0 Try.underlying24 HI.out hz0 hz1 hz2 rfl s9.has0 _ lo rfl (s9.has3.rd.src Try.underlying24) (by first | omega | (simp; done) | (simp; omega)) ?_; intro x6 v7 q6; have s10 : St w.heap.size w v7 [(x6, lo), (x5, lo ++ putI a1), (Value.slice a3q (lo.length + 1) cb, lo ++ putB false), (.slice aw lo.length cw, lo)] := s9.app0 q6))
    refine (rtext_any a3 _ (by omega)).mono ?_
    rintro r v8 ⟨y2, rfl, p2⟩
    have s11 : St w.heap.size w v8 [(y2, putT a3.data.toList), (x6, lo), (x5, lo ++ putI a1), (Value.slice a3q (lo.length + 1) cb, lo ++ putB false), (.slice aw lo.length cw, lo)] := s10.ofNil p2
    go_wp2_with (first
      | (at_builtin; refine wpList_put (o := ⟨some 62, _, _, _, _, _⟩) rfl _ _ _ _ rfl 5 j0 Try.underlying24 HI.out hz0 hz1 hz2 rfl s11.has1 _ (putT a3.data.toList) rfl (s11.has0.rd.src Try.underlying24) (by first | omega | (simp; done) | (simp; omega)) ?_; intro x7 v9 q7; have s12 : St w.heap.size w v9 [(x7, lo ++ putT a3.data.toList), (x5, lo ++ putI a1), (Value.slice a3q (lo.length + 1) cb, lo ++ putB false), (.slice aw lo.length cw, lo)] := (s11.app1 q7).drop; have s13 := s12.lit' [] #[] 5 0 _ rfl rfl (by decide) rfl)
      | (at_builtin; refine wpList_put (o := ⟨some 65, _, _, _, _, _⟩) rfl _ _ _ _ rfl 5 j0 Try.underlying24 HI.out hz0 hz1 hz2 rfl s13.has0 _ lo rfl ((has4 s13).rd.src Try.underlying24) (by first | omega | (simp; done) | (simp; omega)) ?_; intro x8 u0 q8; have s14 : St w.heap.size w u0 [(x8, lo), (x7, lo ++ putT a3.data.toList), (x5, lo ++ putI a1), (Value.slice a3q (lo.length + 1) cb, lo ++ putB false), (.slice aw lo.length cw, lo)] := s13.app0 q8))
    refine (rint_any a4 _ i4.1 i4.2).mono ?_
    rintro r u1 ⟨y3, rfl, p3⟩
    have s15 : St w.heap.size w u1 [(y3, putI a4), (x8, lo), (x7, lo ++ putT a3.data.toList), (x5, lo ++ putI a1), (Value.slice a3q (lo.length + 1) cb, lo ++ putB false), (.slice aw lo.length cw, lo)] := s14.ofNil p3
    go_wp2_with (first
      | (at_builtin; refine wpList_put (o := ⟨some 68, _, _, _, _, _⟩) rfl _ _ _ _ rfl 5 j0 Try.underlying24 HI.out hz0 hz1 hz2 rfl s15.has1 _ (putI a4) rfl (s15.has0.rd.src Try.underlying24) (by first | omega | (simp; done) | (simp; omega)) ?_; intro x9 u2 q9; have s16 : St w.heap.size w u2 [(x9, lo ++ putI a4), (x7, lo ++ putT a3.data.toList), (x5, lo ++ putI a1), (Value.slice a3q (lo.length + 1) cb, lo ++ putB false), (.slice aw lo.length cw, lo)] := (s15.app1 q9).drop))
    refine (rint_any a5 _ i5.1 i5.2).mono ?_
    rintro r u3 ⟨y4, rfl, p4⟩
    have s17 : St w.heap.size w u3 [(y4, putI a5), (x9, lo ++ putI a4), (x7, lo ++ putT a3.data.toList), (x5, lo ++ putI a1), (Value.slice a3q (lo.length + 1) cb, lo ++ putB false), (.slice aw lo.length cw, lo)] := s16.ofNil p4
    go_wp2_with (first
      | (at_builtin; refine wpList_put (o := ⟨some 71, _, _, _, _, _⟩) rfl _ _ _ _ rfl 5 j0 Try.underlying24 HI.out hz0 hz1 hz2 rfl s17.has1 _ (putI a5) rfl (s17.has0.rd.src Try.underlying24) (by first | omega | (simp; done) | (simp; omega)) ?_; intro xa u4 qa; have s18 : St w.heap.size w u4 [(xa, lo ++ putV a4 a5), (x7, lo ++ putT a3.data.toList), (x5, lo ++ putI a1), (Value.slice a3q (lo.length + 1) cb, lo ++ putB false), (.slice aw lo.length cw, lo)] := verList (s17.app1 qa).drop))
    refine mix.wp_region_mix (fun _ => True) mix.noOper [([], 0), ([1, 2, 3, 4, 5, 6, 7, 8, 10], 9), ([], 11), ([12, 13, 14, 15, 16, 17, 18, 19, 20, 22], 21), ([], 23), ([24, 25, 26, 27, 28, 29, 30, 31, 32, 34], 33), ([], 35), ([36, 37, 38, 39, 40, 41, 42, 43, 44, 45, 48], 46), ([], 47), ([], 49)] [50, 51] (by kernel_rfl) (by kernel_rfl) (fun _ _ _ d _ h => by cases d <;> exact h) ?_ ?_
    · trivial
    rw [mix.wpMix_cons]
    simp only [List.map_nil, List.getD_cons_zero]
    refine wpQuiet_nil ?_
    refine mix.callAt_step (by rfl) (fun K hK => ?_)
    go_simp
    refine (awake3.awake_any _).mono ?_
    rintro r u5 ⟨rfl, hb5⟩
    have t0 := s18.drew.quiet hb5
    go_wp2_with fail
    refine ⟨trivial, ?_⟩
    rw [mix.wpMix_cons]
    simp only [List.map_cons, List.map_nil, List.getD_cons_succ, List.getD_cons_zero]
    repeat (go_big_quiet_step (fail))
    refine wpQuiet_nil ?_
    refine mix.callAt_step (by rfl) (fun K hK => ?_)
    go_simp
    refine (put.int_any _ lo a1 _ ((has4 t0).clip) i1.1 i1.2 (by omega)).mono ?_
    rintro r u6 ⟨z1, rfl, pz1⟩
    have c1 : St w.heap.size w u6 [(z1, lo ++ putI a1), (xa, lo ++ putV a4 a5), (x7, lo ++ putT a3.data.toList), (x5, lo ++ putI a1), (Value.slice a3q (lo.length + 1) cb, lo ++ putB false), (.slice aw lo.length cw, lo)] := t0.clipped pz1 (by rw [List.length_append]; have := (show 0 < (putI a1).length from gr_len 9 (zig a1)); omega)
    go_wp2_with fail
    refine ⟨trivial, ?_⟩
    rw [mix.wpMix_cons]
    simp only [List.map_nil, List.getD_cons_succ, List.getD_cons_zero]
    refine wpQuiet_nil ?_
    refine mix.callAt_step (by rfl) (fun K hK => ?_)
    go_simp
    refine (same_any _ _ _ _ _ c1.has0.rd (St.has3 c1).rd).mono ?_
    rintro r u7 ⟨rfl, hz1⟩
    simp only [decide_true]
    have t1 := (c1.quiet hz1).drop
    go_wp2_with fail
    refine ⟨trivial, ?_⟩
    rw [mix.wpMix_cons]
    simp only [List.map_cons, List.map_nil, List.getD_cons_succ, List.getD_cons_zero]
    repeat (go_big_quiet_step (fail))
    refine wpQuiet_nil ?_
    refine mix.callAt_step (by rfl) (fun K hK => ?_)
    go_simp
    refine (put.bool_any _ lo false _ ((has4 t1).clip) (by omega)).mono ?_
    rintro r u8 ⟨z2, rfl, pz2⟩
    have c2 : St w.heap.size w u8 [(z2, lo ++ putB false), (xa, lo ++ putV a4 a5), (x7, lo ++ putT a3.data.toList), (x5, lo ++ putI a1), (Value.slice a3q (lo.length + 1) cb, lo ++ putB false), (.slice aw lo.length cw, lo)] := t1.clipped pz2 (by rw [List.length_append]; have := (show (putB false).length = 1 from rfl); omega)
    go_wp2_with fail
    refine ⟨trivial, ?_⟩
    rw [mix.wpMix_cons]
    simp only [List.map_nil, List.getD_cons_succ, List.getD_cons_zero]
    refine wpQuiet_nil ?_
    refine mix.callAt_step (by rfl) (fun K hK => ?_)
    go_simp
    refine (same_any _ _ _ _ _ c2.has0.rd (has4 c2).rd).mono ?_
    rintro r u9 ⟨rfl, hz2⟩
    simp only [decide_true]
    have t2 := (c2.quiet hz2).drop
    go_wp2_with fail
    refine ⟨trivial, ?_⟩
    rw [mix.wpMix_cons]
    simp only [List.map_cons, List.map_nil, List.getD_cons_succ, List.getD_cons_zero]
    repeat (go_big_quiet_step (fail))
    refine wpQuiet_nil ?_
    refine mix.callAt_step (by rfl) (fun K hK => ?_)
    go_simp
    refine (put.text_any _ lo a3 _ ((has4 t2).clip) (by unfold maxLen; omega) (by omega)).mono ?_
    rintro r y5 ⟨z3, rfl, pz3⟩
    have c3 : St w.heap.size w y5 [(z3, lo ++ putT a3.data.toList), (xa, lo ++ putV a4 a5), (x7, lo ++ putT a3.data.toList), (x5, lo ++ putI a1), (Value.slice a3q (lo.length + 1) cb, lo ++ putB false), (.slice aw lo.length cw, lo)] := t2.clipped pz3 (by rw [List.length_append]; have := putT_pos a3.data.toList; omega)
    go_wp2_with fail
    refine ⟨trivial, ?_⟩
    rw [mix.wpMix_cons]
    simp only [List.map_nil, List.getD_cons_succ, List.getD_cons_zero]
    refine wpQuiet_nil ?_
    refine mix.callAt_step (by rfl) (fun K hK => ?_)
    go_simp
    refine (same_any _ _ _ _ _ c3.has0.rd (St.has2 c3).rd).mono ?_
    rintro r y6 ⟨rfl, hz3⟩
    simp only [decide_true]
    have t3 := (c3.quiet hz3).drop
    go_wp2_with fail
    refine ⟨trivial, ?_⟩
    rw [mix.wpMix_cons]
    simp only [List.map_cons, List.map_nil, List.getD_cons_succ, List.getD_cons_zero]
    repeat (go_big_quiet_step (fail))
    refine wpQuiet_nil ?_
    refine mix.callAt_step (by rfl) (fun K hK => ?_)
    go_simp
    refine (ver.make_any _ _ _).mono ?_
    rintro r w' ⟨rfl, rfl⟩
    go_wp2_with fail
    refine ⟨trivial, ?_⟩
    rw [mix.wpMix_cons]
    simp only [List.map_nil, List.getD_cons_succ, List.getD_cons_zero]
    refine wpQuiet_nil ?_
    refine mix.callAt_step (by rfl) (fun K hK => ?_)
    go_simp
    refine (put.ver_any _ lo _ _ a4 a5 _ T4.out T5.out ((has4 t3).clip) (by omega) (by omega) (by omega) (by omega) (by omega)).mono ?_
    rintro r y7 ⟨z4, rfl, pz4⟩
    have c4 : St w.heap.size w y7 [(z4, lo ++ putV a4 a5), (xa, lo ++ putV a4 a5), (x7, lo ++ putT a3.data.toList), (x5, lo ++ putI a1), (Value.slice a3q (lo.length + 1) cb, lo ++ putB false), (.slice aw lo.length cw, lo)] := t3.clipped pz4 (by rw [List.length_append]; have := putV_pos a4 a5; omega)
    go_wp2_with fail
    refine ⟨trivial, ?_⟩
    rw [mix.wpMix_cons]
    simp only [List.map_nil, List.getD_cons_succ, List.getD_cons_zero]
    refine wpQuiet_nil ?_
    refine mix.callAt_step (by rfl) (fun K hK => ?_)
    go_simp
    refine (same_any _ _ _ _ _ c4.has0.rd (St.has1 c4).rd).mono ?_
    rintro r y8 ⟨rfl, hz4⟩
    simp only [decide_true]
    have t4 := (c4.quiet hz4).drop
    go_wp2_with fail
    refine ⟨trivial, ?_⟩
    rw [mix.wpMix_nil]
    simp only [List.map_cons, List.map_nil, List.getD_cons_succ, List.getD_cons_zero]
    repeat (go_big_quiet_step (fail))
    refine wpQuiet_nil ?_
    go_wp2
    go_ret
    exact ⟨rfl, t4.bel⟩
  · skip
    go_enter Try.func6, Try.ntmps6
    go_wp2_with fail
    refine (ver.fits_any _ _).mono ?_
    rintro r w' ⟨rfl, rfl⟩
    rw [F4.out]
    go_wp2_with fail
    refine (ver.fits_any _ _).mono ?_
    rintro r w' ⟨rfl, rfl⟩
    rw [F5.out]
    have s0 := (St.start w).nil
    go_wp2_with (first
      | (at_builtin; refine wpList_put (o := ⟨some 39, _, _, _, _, _⟩) rfl _ _ _ _ rfl 5 j0 Try.underlying24 HI.out hz0 hz1 hz2 rfl s0.has0 _ lo rfl ((s0.old RO.out).src Try.underlying24) (by first | omega | (simp; done) | (simp; omega)) ?_; intro x1 v1 q1; have s1 : St w.heap.size w v1 [(x1, lo)] := s0.app0 q1; obtain ⟨aw, cw, hx1⟩ := (show Has v1 x1 lo from s1.has0).len; subst hx1; obtain ⟨cl1, cl2⟩ := capLe s1.has0.rd; have s2 := s1.lit' [] #[] 5 0 _ rfl rfl (by decide) rfl)
      | (at_builtin; refine wpList_put (o := ⟨some 42, _, _, _, _, _⟩) rfl _ _ _ _ rfl 5 j0 Try.underlying24 HI.out hz0 hz1 hz2 rfl s2.has0 _ lo rfl (s2.has1.rd.src Try.underlying24) (by first | omega | (simp; done) | (simp; omega)) ?_; intro x2 v2 q2; have s3 : St w.heap.size w v2 [(x2, lo), (.slice aw lo.length cw, lo)] := s2.app0 q2; have hb0 := Rd.byte' v2 0 0 rfl 5 _ rfl)
      | (at_builtin; refine wpList_put (o := ⟨some 44, _, _, _, _, _⟩) rfl _ _ _ _ rfl 5 j0 Try.underlying24 HI.out hz0 hz1 hz2 rfl (s3.has0.alloc _) _ [0] rfl (hb0.src Try.underlying24) (by first | omega | (simp; done) | (simp; omega)) ?_; intro x3 v3 q3; have s4 : St w.heap.size w v3 [(x3, lo ++ [0]), (.slice aw lo.length cw, lo)] := (s3.alloc _).app0 q3; obtain ⟨g, off, cb, uu, hx3, hcell, hfr⟩ := (show Has v3 x3 (lo ++ [0]) from s4.has0).at (i := lo.length) (by simp); rw [blen'] at hx3; subst hx3; have s5 := (setTrue s4).lit' [] #[] 5 0 v3.heap.size rfl rfl (by decide) (by simp [World.setCell]))
      | (at_builtin; refine wpList_put (o := ⟨some 53, _, _, _, _, _⟩) rfl _ _ _ _ rfl 5 j0 Try.underlying24 HI.out hz0 hz1 hz2 rfl s5.has0 _ lo rfl (s5.has2.rd.src Try.underlying24) (by first | omega | (simp; done) | (simp; omega)) ?_; intro x4 v4 q4; have s6 : St w.heap.size w v4 [(x4, lo), (Value.slice (some ⟨g, off, none⟩) (lo.length + 1) cb, lo ++ putB true), (.slice aw lo.length cw, lo)] := s5.app0 q4))
    refine (rint_any a1 _ i1.1 i1.2).mono ?_
    rintro r v5 ⟨y1, rfl, p1⟩
    have s7 : St w.heap.size w v5 [(y1, putI a1), (x4, lo), (Value.slice (some ⟨g, off, none⟩) (lo.length + 1) cb, lo ++ putB true), (.slice aw lo.length cw, lo)] := s6.ofNil p1
    go_wp2_with (first
      | (at_builtin; refine wpList_put (o := ⟨some 56, _, _, _, _, _⟩) rfl _ _ _ _ rfl 5 j0 Try.underlying24 HI.out hz0 hz1 hz2 rfl s7.has1 _ (putI a1) rfl (s7.has0.rd.src Try.underlying24) (by first | omega | (simp; done) | (simp; omega)) ?_; intro x5 v6 q5; have s8 : St w.heap.size w v6 [(x5, lo ++ putI a1), (Value.slice (some ⟨g, off, none⟩) (lo.length + 1) cb, lo ++ putB true), (.slice aw lo.length cw, lo)] := (s7.app1 q5).drop; have s9 := s8.lit' [] #[] 5 0 _ rfl rfl (by decide) rfl)
      | (at_builtin; refine wpList_put (o := ⟨some 59, _, _, _, _, _⟩) rfl _ _ _ _ rfl 5 j0 Try.underlying24 HI.out hz0 hz1 hz2 rfl s9.has0 _ lo rfl (s9.has3.rd.src Try.underlying24) (by first | omega | (simp; done) | (simp; omega)) ?_; intro x6 v7 q6; have s10 : St w.heap.size w v7 [(x6, lo), (x5, lo ++ putI a1), (Value.slice (some ⟨g, off, none⟩) (lo.length + 1) cb, lo ++ putB true), (.slice aw lo.length cw, lo)] := s9.app0 q6))
    refine (rtext_any a3 _ (by omega)).mono ?_
    rintro r v8 ⟨y2, rfl, p2⟩
    have s11 : St w.heap.size w v8 [(y2, putT a3.data.toList), (x6, lo), (x5, lo ++ putI a1), (Value.slice (some ⟨g, off, none⟩) (lo.length + 1) cb, lo ++ putB true), (.slice aw lo.length cw, lo)] := s10.ofNil p2
    go_wp2_with (first
      | (at_builtin; refine wpList_put (o := ⟨some 62, _, _, _, _, _⟩) rfl _ _ _ _ rfl 5 j0 Try.underlying24 HI.out hz0 hz1 hz2 rfl s11.has1 _ (putT a3.data.toList) rfl (s11.has0.rd.src Try.underlying24) (by first | omega | (simp; done) | (simp; omega)) ?_; intro x7 v9 q7; have s12 : St w.heap.size w v9 [(x7, lo ++ putT a3.data.toList), (x5, lo ++ putI a1), (Value.slice (some ⟨g, off, none⟩) (lo.length + 1) cb, lo ++ putB true), (.slice aw lo.length cw, lo)] := (s11.app1 q7).drop; have s13 := s12.lit' [] #[] 5 0 _ rfl rfl (by decide) rfl)
      | (at_builtin; refine wpList_put (o := ⟨some 65, _, _, _, _, _⟩) rfl _ _ _ _ rfl 5 j0 Try.underlying24 HI.out hz0 hz1 hz2 rfl s13.has0 _ lo rfl ((has4 s13).rd.src Try.underlying24) (by first | omega | (simp; done) | (simp; omega)) ?_; intro x8 u0 q8; have s14 : St w.heap.size w u0 [(x8, lo), (x7, lo ++ putT a3.data.toList), (x5, lo ++ putI a1), (Value.slice (some ⟨g, off, none⟩) (lo.length + 1) cb, lo ++ putB true), (.slice aw lo.length cw, lo)] := s13.app0 q8))
    refine (rint_any a4 _ i4.1 i4.2).mono ?_
    rintro r u1 ⟨y3, rfl, p3⟩
    have s15 : St w.heap.size w u1 [(y3, putI a4), (x8, lo), (x7, lo ++ putT a3.data.toList), (x5, lo ++ putI a1), (Value.slice (some ⟨g, off, none⟩) (lo.length + 1) cb, lo ++ putB true), (.slice aw lo.length cw, lo)] := s14.ofNil p3
    go_wp2_with (first
      | (at_builtin; refine wpList_put (o := ⟨some 68, _, _, _, _, _⟩) rfl _ _ _ _ rfl 5 j0 Try.underlying24 HI.out hz0 hz1 hz2 rfl s15.has1 _ (putI a4) rfl (s15.has0.rd.src Try.underlying24) (by first | omega | (simp; done) | (simp; omega)) ?_; intro x9 u2 q9; have s16 : St w.heap.size w u2 [(x9, lo ++ putI a4), (x7, lo ++ putT a3.data.toList), (x5, lo ++ putI a1), (Value.slice (some ⟨g, off, none⟩) (lo.length + 1) cb, lo ++ putB true), (.slice aw lo.length cw, lo)] := (s15.app1 q9).drop))
    refine (rint_any a5 _ i5.1 i5.2).mono ?_
    rintro r u3 ⟨y4, rfl, p4⟩
    have s17 : St w.heap.size w u3 [(y4, putI a5), (x9, lo ++ putI a4), (x7, lo ++ putT a3.data.toList), (x5, lo ++ putI a1), (Value.slice (some ⟨g, off, none⟩) (lo.length + 1) cb, lo ++ putB true), (.slice aw lo.length cw, lo)] := s16.ofNil p4
    go_wp2_with (first
      | (at_builtin; refine wpList_put (o := ⟨some 71, _, _, _, _, _⟩) rfl _ _ _ _ rfl 5 j0 Try.underlying24 HI.out hz0 hz1 hz2 rfl s17.has1 _ (putI a5) rfl (s17.has0.rd.src Try.underlying24) (by first | omega | (simp; done) | (simp; omega)) ?_; intro xa u4 qa; have s18 : St w.heap.size w u4 [(xa, lo ++ putV a4 a5), (x7, lo ++ putT a3.data.toList), (x5, lo ++ putI a1), (Value.slice (some ⟨g, off, none⟩) (lo.length + 1) cb, lo ++ putB true), (.slice aw lo.length cw, lo)] := verList (s17.app1 qa).drop))
    refine mix.wp_region_mix (fun _ => True) mix.noOper [([], 0), ([1, 2, 3, 4, 5, 6, 7, 8, 10], 9), ([], 11), ([12, 13, 14, 15, 16, 17, 18, 19, 20, 22], 21), ([], 23), ([24, 25, 26, 27, 28, 29, 30, 31, 32, 34], 33), ([], 35), ([36, 37, 38, 39, 40, 41, 42, 43, 44, 45, 48], 46), ([], 47), ([], 49)] [50, 51] (by kernel_rfl) (by kernel_rfl) (fun _ _ _ d _ h => by cases d <;> exact h) ?_ ?_
    · trivial
    rw [mix.wpMix_cons]
    simp only [List.map_nil, List.getD_cons_zero]
    refine wpQuiet_nil ?_
    refine mix.callAt_step (by rfl) (fun K hK => ?_)
    go_simp
    refine (awake3.awake_any _).mono ?_
    rintro r u5 ⟨rfl, hb5⟩
    have t0 := s18.drew.quiet hb5
    go_wp2_with fail
    refine ⟨trivial, ?_⟩
    rw [mix.wpMix_cons]
    simp only [List.map_cons, List.map_nil, List.getD_cons_succ, List.getD_cons_zero]
    repeat (go_big_quiet_step (fail))
    refine wpQuiet_nil ?_
    refine mix.callAt_step (by rfl) (fun K hK => ?_)
    go_simp
    refine (put.int_any _ lo a1 _ ((has4 t0).clip) i1.1 i1.2 (by omega)).mono ?_
    rintro r u6 ⟨z1, rfl, pz1⟩
    have c1 : St w.heap.size w u6 [(z1, lo ++ putI a1), (xa, lo ++ putV a4 a5), (x7, lo ++ putT a3.data.toList), (x5, lo ++ putI a1), (Value.slice (some ⟨g, off, none⟩) (lo.length + 1) cb, lo ++ putB true), (.slice aw lo.length cw, lo)] := t0.clipped pz1 (by rw [List.length_append]; have := (show 0 < (putI a1).length from gr_len 9 (zig a1)); omega)
    go_wp2_with fail
    refine ⟨trivial, ?_⟩
    rw [mix.wpMix_cons]
    simp only [List.map_nil, List.getD_cons_succ, List.getD_cons_zero]
    refine wpQuiet_nil ?_
    refine mix.callAt_step (by rfl) (fun K hK => ?_)
    go_simp
    refine (same_any _ _ _ _ _ c1.has0.rd (St.has3 c1).rd).mono ?_
    rintro r u7 ⟨rfl, hz1⟩
    simp only [decide_true]
    have t1 := (c1.quiet hz1).drop
    go_wp2_with fail
    refine ⟨trivial, ?_⟩
    rw [mix.wpMix_cons]
    simp only [List.map_cons, List.map_nil, List.getD_cons_succ, List.getD_cons_zero]
    repeat (go_big_quiet_step (fail))
    refine wpQuiet_nil ?_
    refine mix.callAt_step (by rfl) (fun K hK => ?_)
    go_simp
    refine (put.bool_any _ lo true _ ((has4 t1).clip) (by omega)).mono ?_
    rintro r u8 ⟨z2, rfl, pz2⟩
    have c2 : St w.heap.size w u8 [(z2, lo ++ putB true), (xa, lo ++ putV a4 a5), (x7, lo ++ putT a3.data.toList), (x5, lo ++ putI a1), (Value.slice (some ⟨g, off, none⟩) (lo.length + 1) cb, lo ++ putB true), (.slice aw lo.length cw, lo)] := t1.clipped pz2 (by rw [List.length_append]; have := (show (putB true).length = 1 from rfl); omega)
    go_wp2_with fail
    refine ⟨trivial, ?_⟩
    rw [mix.wpMix_cons]
    simp only [List.map_nil, List.getD_cons_succ, List.getD_cons_zero]
    refine wpQuiet_nil ?_
    refine mix.callAt_step (by rfl) (fun K hK => ?_)
    go_simp
    refine (same_any _ _ _ _ _ c2.has0.rd (has4 c2).rd).mono ?_
    rintro r u9 ⟨rfl, hz2⟩
    simp only [decide_true]
    have t2 := (c2.quiet hz2).drop
    go_wp2_with fail
    refine ⟨trivial, ?_⟩
    rw [mix.wpMix_cons]
    simp only [List.map_cons, List.map_nil, List.getD_cons_succ, List.getD_cons_zero]
    repeat (go_big_quiet_step (fail))
    refine wpQuiet_nil ?_
    refine mix.callAt_step (by rfl) (fun K hK => ?_)
    go_simp
    refine (put.text_any _ lo a3 _ ((has4 t2).clip) (by unfold maxLen; omega) (by omega)).mono ?_
    rintro r y5 ⟨z3, rfl, pz3⟩
    have c3 : St w.heap.size w y5 [(z3, lo ++ putT a3.data.toList), (xa, lo ++ putV a4 a5), (x7, lo ++ putT a3.data.toList), (x5, lo ++ putI a1), (Value.slice (some ⟨g, off, none⟩) (lo.length + 1) cb, lo ++ putB true), (.slice aw lo.length cw, lo)] := t2.clipped pz3 (by rw [List.length_append]; have := putT_pos a3.data.toList; omega)
    go_wp2_with fail
    refine ⟨trivial, ?_⟩
    rw [mix.wpMix_cons]
    simp only [List.map_nil, List.getD_cons_succ, List.getD_cons_zero]
    refine wpQuiet_nil ?_
    refine mix.callAt_step (by rfl) (fun K hK => ?_)
    go_simp
    refine (same_any _ _ _ _ _ c3.has0.rd (St.has2 c3).rd).mono ?_
    rintro r y6 ⟨rfl, hz3⟩
    simp only [decide_true]
    have t3 := (c3.quiet hz3).drop
    go_wp2_with fail
    refine ⟨trivial, ?_⟩
    rw [mix.wpMix_cons]
    simp only [List.map_cons, List.map_nil, List.getD_cons_succ, List.getD_cons_zero]
    repeat (go_big_quiet_step (fail))
    refine wpQuiet_nil ?_
    refine mix.callAt_step (by rfl) (fun K hK => ?_)
    go_simp
    refine (ver.make_any _ _ _).mono ?_
    rintro r w' ⟨rfl, rfl⟩
    go_wp2_with fail
    refine ⟨trivial, ?_⟩
    rw [mix.wpMix_cons]
    simp only [List.map_nil, List.getD_cons_succ, List.getD_cons_zero]
    refine wpQuiet_nil ?_
    refine mix.callAt_step (by rfl) (fun K hK => ?_)
    go_simp
    refine (put.ver_any _ lo _ _ a4 a5 _ T4.out T5.out ((has4 t3).clip) (by omega) (by omega) (by omega) (by omega) (by omega)).mono ?_
    rintro r y7 ⟨z4, rfl, pz4⟩
    have c4 : St w.heap.size w y7 [(z4, lo ++ putV a4 a5), (xa, lo ++ putV a4 a5), (x7, lo ++ putT a3.data.toList), (x5, lo ++ putI a1), (Value.slice (some ⟨g, off, none⟩) (lo.length + 1) cb, lo ++ putB true), (.slice aw lo.length cw, lo)] := t3.clipped pz4 (by rw [List.length_append]; have := putV_pos a4 a5; omega)
    go_wp2_with fail
    refine ⟨trivial, ?_⟩
    rw [mix.wpMix_cons]
    simp only [List.map_nil, List.getD_cons_succ, List.getD_cons_zero]
    refine wpQuiet_nil ?_
    refine mix.callAt_step (by rfl) (fun K hK => ?_)
    go_simp
    refine (same_any _ _ _ _ _ c4.has0.rd (St.has1 c4).rd).mono ?_
    rintro r y8 ⟨rfl, hz4⟩
    simp only [decide_true]
    have t4 := (c4.quiet hz4).drop
    go_wp2_with fail
    refine ⟨trivial, ?_⟩
    rw [mix.wpMix_nil]
    simp only [List.map_cons, List.map_nil, List.getD_cons_succ, List.getD_cons_zero]
    repeat (go_big_quiet_step (fail))
    refine wpQuiet_nil ?_
    go_wp2
    go_ret
    exact ⟨rfl, t4.bel⟩

set_option maxRecDepth 100000 in
theorem lifted (os : Os) (started : os.Started) (H : Type) (enc : TypeId × Value → H) :
    ReturnsInHanded {} Try.checked os 6 .any (Rows.wirePutsSpec.pre6 enc Try.prog Try.f6 Rows.wirePutsRow.domain false) (Rows.wirePutsSpec.post enc Try.prog Try.f6 false true false false) := by
  refine returnsInHanded_of_change (C := Try.checked) own started (by kernel_rfl) Try.func6
    (ChangeSpec.witness6 (enc := enc) (C := Try.checked) false ⟨#[], #[.slice none 0 0, .int .i64 0, .bool false, .string ⟨#[]⟩, .int .i64 0, .int .i64 0], []⟩ 8 (by kernel_rfl) (by kernel_rfl) (by kernel_rfl) (by kernel_rfl)) ?_
  intro W base args ds gs before hval0 hW hcnd _
  have hval : ∀ (j : Nat) t v, Try.f6.params[j]? = some t → args[j]? = some v → Value.okWide Try.prog W .any base t v := hval0
  have hW' := hW
  obtain ⟨p, q, hA0, hV, rfl, hfz, hnd⟩ := hW
  have hA : DataW.TrodAll enc Try.prog W 0 (fun _ => true) true Try.f6.params.toList args.toList ds p := hA0
  rw [Try.params6] at hA hval
  obtain ⟨v0, vs0, d0, ds0, p0, q0, hargs, rfl, rfl, h0, r0⟩ := trodAll_cons hA
  obtain ⟨v1, vs1, d1, ds1, p1, q1, rfl, rfl, rfl, h1, r1⟩ := trodAll_cons r0
  obtain ⟨v2, vs2, d2, ds2, p2, q2, rfl, rfl, rfl, h2, r2⟩ := trodAll_cons r1
  obtain ⟨v3, vs3, d3, ds3, p3, q3, rfl, rfl, rfl, h3, r3⟩ := trodAll_cons r2
  obtain ⟨v4, vs4, d4, ds4, p4, q4, rfl, rfl, rfl, h4, r4⟩ := trodAll_cons r3
  obtain ⟨v5, vs5, d5, ds5, p5, q5, rfl, rfl, rfl, h5, r5⟩ := trodAll_cons r4
  obtain ⟨rfl, rfl, rfl⟩ := trodAll_nil r5
  obtain rfl : args = #[v0, v1, v2, v3, v4, v5] := by cases args; simp_all
  obtain ⟨rfl, rfl⟩ := trodVars_none hV
  obtain ⟨a0, len0, cap0, rfl⟩ := okWide_slice Try.underlying24 (hval 0 24 v0 rfl rfl)
  have k0 := h0
  have lt0 : ∀ x ∈ p0, x.block < W.heap.size := by obtain ⟨m, hm⟩ := k0; exact DataW.trod_lt m _ _ _ hm
  obtain ⟨z0, w0⟩ : ∃ zs, IsRow .u8 W a0 len0 cap0 zs := by
    obtain ⟨fuel, hf⟩ := h0
    rcases open_ints Try.underlying24 Try.underlying5 (by kernel_rfl) hf with ⟨hcs, _⟩ | ⟨x, l, c, zs, hcs, _, hl, hm, hz, _, hcell, hwz⟩
    · simp [Value.cells] at hcs
      obtain ⟨rfl, rfl, rfl⟩ := hcs
      exact ⟨[], .inl ⟨rfl, rfl, rfl, rfl⟩⟩
    · simp [Value.cells] at hcs
      obtain ⟨rfl, rfl, rfl⟩ := hcs
      exact ⟨zs, .inr ⟨_, rfl, hl, hm, by simpa using hz, hcell, hwz⟩⟩
  obtain ⟨a1, rfl, rfl, rfl, w1⟩ := open_int Try.underlying3 (hval 1 3 v1 rfl rfl) h1
  obtain ⟨a2, rfl, rfl, rfl⟩ := open_bool Try.underlying4 (hval 2 4 v2 rfl rfl) h2
  obtain ⟨a3, rfl, rfl, rfl, w3⟩ := open_string Try.underlying9 (hval 3 9 v3 rfl rfl) h3
  obtain ⟨a4, rfl, rfl, rfl, w4⟩ := open_int Try.underlying3 (hval 4 3 v4 rfl rfl) h4
  obtain ⟨a5, rfl, rfl, rfl, w5⟩ := open_int Try.underlying3 (hval 5 3 v5 rfl rfl) h5
  clear hA0 hval0
  refine (walk a0 len0 cap0 z0 a1 a2 a3 a4 a5 W w0 w1 w3 w4 w5).mono fun e W' ⟨he, bel⟩ => ?_
  subst he
  exact ⟨_, rfl, _, _, _, [], _, [], hW', trodAll_mk1 (shut_bool Try.underlying4 _), (trodAll_cons_mk (Below.trod laidOut (by kernel_rfl) (of_decide_eq_true (by kernel_rfl)) k0 bel lt0) (trodAll_cons_mk (shut_int Try.underlying3 w1) (trodAll_cons_mk (shut_bool Try.underlying4 _) (trodAll_cons_mk (shut_string Try.underlying9 w3) (trodAll_cons_mk (shut_int Try.underlying3 w4) (trodAll_cons_mk (shut_int Try.underlying3 w5) trodAll_mk0)))))), rfl, bel.frame _, fun h => by cases h⟩

theorem over : Rows.wirePutsRow.holds Try.pinned (OpenSpec.ofChange Rows.wirePutsSpec) :=
  OpenClaim.holds_of_wide 6 Try.f6 rfl rfl rfl rfl rfl rfl rfl ⟨rfl, rfl, rfl, rfl, rfl⟩ rfl rfl rfl rfl rfl (by kernel_rfl) Try.func6 (by kernel_rfl)
    (of_decide_eq_true (by kernel_rfl)) (by unfold Func.isWrapper; first | (rw [if_pos (by decide +kernel)]; kernel_rfl) | (rw [if_neg (by decide +kernel)]; exact ⟨rfl, rfl⟩))
    (fun os started H enc _ => lifted os started H enc)

/-- The statement. -/
theorem proved : Rows.WirePutsSaid := over
#print axioms proved
end Go.Proofs.Ytolgbnpginifkaa.wirePuts
