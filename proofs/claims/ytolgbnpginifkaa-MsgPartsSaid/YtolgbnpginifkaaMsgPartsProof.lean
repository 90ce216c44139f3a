/- For every slice of bytes and every place, MsgParts returns true and leaves its arguments as they were. No conditions. -/
import Derived.Test.YtolgbnpginifkaaRows
import Derived.WalkKit
import Derived.ProofKit
import Derived.OpenShut
import Derived.ShutString
import Derived.ChangeOld
import Derived.Below
import Derived.Laws.Cover2
import Derived.Test.YtolgbnpginifkaaAwakeM
namespace Go.Proofs.Ytolgbnpginifkaa.msgParts
open Go.ChangeShapes Go.WideShapes Go.ChangeAt Go.RowKit
open Go.ChangeMaps (open_string shut_string)
set_option linter.unusedVariables false

theorem own : ownKnob Try.prog.godebug = none := by kernel_rfl
theorem laidOut : laidOutB Try.prog = true := by kernel_rfl

/-- What the walk is told of a slice of integers that came in: it is nil; or it leads to a row of 'cap' cells, the numbers 'zs' (the first 'len' are its elements, the rest its spare room), each fitting its kind. -/
def IsRow (k : IntKind) (w : World) (a : Option Addr) (len cap : Nat) (zs : List Int) : Prop :=
  (a = none ∧ len = 0 ∧ cap = 0 ∧ zs = []) ∨
  ∃ x, a = some x ∧ len ≤ cap ∧ cap ≤ maxLen ∧ zs.length = cap ∧ (∀ i, i < zs.length → w.cell? (x.add i) = some (.int k (zs.getD i 0))) ∧ ∀ n ∈ zs, (Lit.int k n).wf = true

open codec st put ref get blk rep ent msgd entget minto mref big
/-- A world in which block b holds the cells cs. -/
def Cls (b : Nat) (cs : List Value) := {y : World // Blk y b cs}
theorem capLe {w : World} {a : Option Addr} {n cap : Nat} {l : List UInt8} (h : Rd w (.slice a n cap) l) : n ≤ cap ∧ cap ≤ 9223372036854775807 := by
  obtain ⟨a', cap', e, h1, h2, _⟩ := h
  simp only [Value.slice.injEq] at e
  obtain ⟨rfl, rfl, rfl⟩ := e
  unfold maxLen at h2
  exact ⟨h1, by omega⟩
theorem isSome {w : World} {a : Option Addr} {n cap : Nat} {l : List UInt8} (h : Rd w (.slice a n cap) l) (hl : 0 < l.length) : ∃ y, a = some y := by
  obtain ⟨a', cap', e, h1, h2, hc⟩ := h
  simp only [Value.slice.injEq] at e
  obtain ⟨rfl, rfl, rfl⟩ := e
  obtain ⟨y, hy, _⟩ := hc 0 _ (List.getElem?_eq_getElem hl)
  exact ⟨y, hy⟩
/-- A slice of a slice. -/
theorem subRd {w : World} {y : Addr} {n cap : Nat} {l : List UInt8} (h : Rd w (.slice (some y) n cap) l) (lo hi : Nat) (h1 : lo ≤ hi) (h2 : hi ≤ l.length) : Rd w (.slice (some (y.add lo)) (hi - lo) (cap - lo)) (seg l lo hi) := by
  obtain ⟨a', cap', e, h3, h4, hc⟩ := h
  simp only [Value.slice.injEq] at e
  obtain ⟨rfl, rfl, rfl⟩ := e
  have hl : (seg l lo hi).length = hi - lo := by unfold seg; rw [List.length_take, List.length_drop]; omega
  refine ⟨_, _, by rw [hl], by rw [hl]; omega, by omega, fun i c hi' => ?_⟩
  have hil : i < hi - lo := by rw [← hl]; exact (List.getElem?_eq_some_iff.1 hi').1
  unfold seg at hi'
  rw [List.getElem?_take, if_pos hil, List.getElem?_drop] at hi'
  obtain ⟨x, hx, hcell⟩ := hc _ c hi'
  cases hx
  exact ⟨_, rfl, by rw [Addr.add_add]; exact hcell⟩

set_option maxRecDepth 100000 in
set_option maxHeartbeats 4000000 in
theorem walk (a0 : Option Addr) (len0 cap0 : Nat) (z0 : List Int) (a1 : Int) (w : World) (w0 : IsRow .u8 w a0 len0 cap0 z0) (w1 : (Lit.int .i64 a1).wf = true) :
    Calls Try.prog 11 #[.slice a0 len0 cap0, .int .i64 a1] w fun e w' => e = .returned (.bool true) ∧ Below w.heap.size w w' := by
  have i1 := bounds_i64 w1
  obtain ⟨lb, rfl, rb⟩ := Rd.ofRow w0
  clear w0
  have RB := Lib.hid rb
  clear rb
  by_cases h0 : 5000 < lb.length
  · skip
    go_enter Try.func11, Try.ntmps11
    go_wp2_with fail
    refine (awake6.awake_any _).mono ?_
    rintro r w1 ⟨rfl, hb1⟩
    go_wp2_with fail
    refine (awake6.awake_any _).mono ?_
    rintro r w2 ⟨rfl, hb2⟩
    go_wp2_with fail
    go_ret
    exact ⟨rfl, hb1.trans (hb2.mono hb1.size)⟩
  by_cases h1 : a1 < 0
  · skip
    go_enter Try.func11, Try.ntmps11
    go_wp2_with fail
    refine (awake6.awake_any _).mono ?_
    rintro r w1 ⟨rfl, hb1⟩
    go_wp2_with fail
    refine (awake6.awake_any _).mono ?_
    rintro r w2 ⟨rfl, hb2⟩
    go_wp2_with fail
    go_ret
    exact ⟨rfl, hb1.trans (hb2.mono hb1.size)⟩
  by_cases h2 : 6000 < a1
  · skip
    go_enter Try.func11, Try.ntmps11
    go_wp2_with fail
    refine (awake6.awake_any _).mono ?_
    rintro r w1 ⟨rfl, hb1⟩
    go_wp2_with fail
    refine (awake6.awake_any _).mono ?_
    rintro r w2 ⟨rfl, hb2⟩
    go_wp2_with fail
    go_ret
    exact ⟨rfl, hb1.trans (hb2.mono hb1.size)⟩
  obtain ⟨k, rfl⟩ : ∃ k : Nat, a1 = k := ⟨a1.toNat, by omega⟩
  have hst : ∀ (x y : Nat) (w : World) (a : Addr) (q : Mode), (store a (.complex .f64 x y) q).run Try.prog w = stored Try.prog w a (.complex .f64 x y) q := fun x y w a q => run_store Try.prog w a _ q rfl
  go_enter Try.func11, Try.ntmps11
  go_wp2_with fail
  refine (awake6.awake_any _).mono ?_
  rintro r w1 ⟨rfl, hb1⟩
  go_wp2_with fail
  refine (mget.getIm_any _ lb k w1 (RB.out.below hb1 (Nat.le_refl _)) (by omega) (by omega)).mono ?_
  rintro r w2 ⟨hb2, hg⟩
  cases hI : getIm lb k with
  | none =>
    rw [hI] at hg
    subst hg
    simp only [packA, mget.zIm]
    go_wp2_with fail
    have gA := (hb1.trans (hb2.mono hb1.size)).alloc (Nat.le_trans hb1.size hb2.size) (.cells #[.complex .f64 0 0, .complex .f64 0 0, .int .i64 0, .slice none 0 0, .slice none 0 0] 62)
    refine (mget.views_any _ lb k _ (RB.out.below gA (Nat.le_refl _)) (by omega) (by omega)).mono ?_
    rintro r w3 ⟨hb3, hg3⟩
    have gB := gA.trans (hb3.mono gA.size)
    cases hV : getL getVw lb k with
    | none =>
      rw [hV] at hg3
      subst hg3
      go_wp2_with fail
      refine mix.wp_region_mix (fun _ => True) mix.noOper [([0, 1, 2, 3, 4, 5, 6, 7, 8, 9, 10, 11, 12, 14, 15, 16, 17], 13), ([], 18)] [19, 20, 21, 22, 23, 24, 25, 26, 27, 28, 29] (by kernel_rfl) (by kernel_rfl) (fun _ _ _ d _ h => by cases d <;> exact h) ?_ ?_
      · trivial
      rw [mix.wpMix_cons]
      simp only [List.map_cons, List.map_nil, List.getD_cons_succ, List.getD_cons_zero]
      repeat (go_big_quiet_step (fail))
      refine wpQuiet_nil ?_
      refine mix.callAt_skip (by rfl) ⟨trivial, ?_⟩
      simp only [Act.put, List.setIfInBounds_toArray, List.set_cons_zero, List.set_cons_succ]
      rw [mix.wpMix_cons]
      simp only [List.map_nil, List.getD_cons_succ, List.getD_cons_zero]
      refine wpQuiet_nil ?_
      refine mix.callAt_skip (by rfl) ⟨trivial, ?_⟩
      simp only [Act.put, List.setIfInBounds_toArray, List.set_cons_zero, List.set_cons_succ]
      rw [mix.wpMix_nil]
      simp only [List.map_cons, List.map_nil, List.getD_cons_succ, List.getD_cons_zero]
      repeat (go_big_quiet_step (fail))
      refine wpQuiet_nil ?_
      have gH := gB.drew
      have gK := (Below.refl w3.heap.size w3).drew.drew
      go_wp2_with fail
      refine mix.wp_region_mix (fun _ => True) mix.noOper [([0, 1, 2, 3, 4, 5, 6, 7, 8, 9, 10, 11, 12, 14, 15, 16, 17], 13), ([], 18)] [19, 20, 21, 22, 23, 24, 25, 26, 27, 28, 29, 30, 31, 32, 33, 34] (by kernel_rfl) (by kernel_rfl) (fun _ _ _ d _ h => by cases d <;> exact h) ?_ ?_
      · trivial
      rw [mix.wpMix_cons]
      simp only [List.map_cons, List.map_nil, List.getD_cons_succ, List.getD_cons_zero]
      repeat (go_big_quiet_step (fail))
      refine wpQuiet_nil ?_
      refine mix.callAt_skip (by rfl) ⟨trivial, ?_⟩
      simp only [Act.put, List.setIfInBounds_toArray, List.set_cons_zero, List.set_cons_succ]
      rw [mix.wpMix_cons]
      simp only [List.map_nil, List.getD_cons_succ, List.getD_cons_zero]
      refine wpQuiet_nil ?_
      refine mix.callAt_skip (by rfl) ⟨trivial, ?_⟩
      simp only [Act.put, List.setIfInBounds_toArray, List.set_cons_zero, List.set_cons_succ]
      rw [mix.wpMix_nil]
      simp only [List.map_cons, List.map_nil, List.getD_cons_succ, List.getD_cons_zero]
      repeat (go_big_quiet_step (fail))
      refine wpQuiet_nil ?_
      go_wp2_with fail
      go_ret
      exact ⟨rfl, gH.drew⟩
    | some q =>
      obtain ⟨vs, z2⟩ := q
      rw [hV] at hg3
      obtain ⟨cs3, hrep3, rfl⟩ := hg3
      obtain ⟨ol1, ol2, ol3, ol4⟩ := (getL_law lawVw) lb k vs z2 hV
      have LO := Lib.hid ol3
      have OP := Lib.hid ol4.2
      have hvl := ol4.1
      clear ol3 ol4 hV
      have HREP3 := Lib.hid hrep3
      obtain ⟨u5, rows5, rfl, hrow5, hl5, a5, cap5, rfl, hd5⟩ := hrep3
      simp only [packV, List.headD_cons]
      clear hrow5 hl5 hd5
      obtain ⟨oc1, oc2⟩ := capLe RB.out
      obtain ⟨yy, hyy⟩ := isSome RB.out (by omega)
      subst hyy
      have ohnk : ¬ cap0 = k := by omega
      have ohd1 : decide (z2 < k) = false := decide_eq_false (by omega)
      have ohd2 : decide (lb.length < z2) = false := decide_eq_false (by omega)
      go_wp2_with fail
      refine mix.wp_region_mix (fun _ => True) mix.noOper [([0, 1, 2, 3, 4, 5, 6, 7, 8, 9, 10, 11, 12, 14, 15, 16, 17], 13), ([], 18)] [19, 20, 21, 22, 23, 24, 25, 26, 27, 28, 29] (by kernel_rfl) (by kernel_rfl) (fun _ _ _ d _ h => by cases d <;> exact h) ?_ ?_
      · trivial
      rw [mix.wpMix_cons]
      simp only [List.map_cons, List.map_nil, List.getD_cons_succ, List.getD_cons_zero]
      repeat (go_big_quiet_step (fail))
      refine wpQuiet_nil ?_
      refine mix.callAt_skip (by rfl) ⟨trivial, ?_⟩
      simp only [Act.put, List.setIfInBounds_toArray, List.set_cons_zero, List.set_cons_succ]
      rw [mix.wpMix_cons]
      simp only [List.map_nil, List.getD_cons_succ, List.getD_cons_zero]
      refine wpQuiet_nil ?_
      refine mix.callAt_skip (by rfl) ⟨trivial, ?_⟩
      simp only [Act.put, List.setIfInBounds_toArray, List.set_cons_zero, List.set_cons_succ]
      rw [mix.wpMix_nil]
      simp only [List.map_cons, List.map_nil, List.getD_cons_succ, List.getD_cons_zero]
      repeat (go_big_quiet_step (fail))
      refine wpQuiet_nil ?_
      have gH := gB.drew
      have gK := (Below.refl w3.heap.size w3).drew.drew
      go_wp2_with fail
      refine mix.wp_region_mix (fun _ => True) mix.noOper [([0, 1, 2, 3, 4, 5, 6, 7, 8, 9, 10, 11, 12, 14, 15, 16, 17], 13), ([], 18)] [19, 20, 21, 22, 23, 24, 25, 26, 27, 28, 29, 30, 31, 32, 33, 34] (by kernel_rfl) (by kernel_rfl) (fun _ _ _ d _ h => by cases d <;> exact h) ?_ ?_
      · trivial
      rw [mix.wpMix_cons]
      simp only [List.map_cons, List.map_nil, List.getD_cons_succ, List.getD_cons_zero]
      repeat (go_big_quiet_step (fail))
      refine wpQuiet_nil ?_
      refine mix.callAt_step (by rfl) (fun K hK => ?_)
      go_simp
      refine (views_any _ vs _ _ ((list rVw).keep (fun b _ hb => gK.block b hb) HREP3.out) OP.out hvl (by have h := congrArg List.length LO.out; unfold seg at h; rw [List.length_take, List.length_drop] at h; omega)).mono ?_
      rintro r u3 ⟨y2, rfl, gp⟩
      have gb := entref.Puts.below0 gp
      have gg := gH.drew.trans (gb.mono gH.drew.size)
      go_wp2_with fail
      refine ⟨trivial, ?_⟩
      rw [mix.wpMix_cons]
      simp only [List.map_nil, List.getD_cons_succ, List.getD_cons_zero]
      refine wpQuiet_nil ?_
      refine mix.callAt_step (by rfl) (fun K hK => ?_)
      go_simp
      refine (same_any _ _ _ (seg lb k z2) _ gp.has.rd (subRd (RB.out.below gg (Nat.le_refl _)) k z2 (by omega) (by omega))).mono ?_
      rintro r u4 ⟨rfl, gf⟩
      rw [LO.out]
      simp only [decide_true]
      have gh := gg.trans (gf.mono gg.size)
      go_wp2_with fail
      refine ⟨trivial, ?_⟩
      rw [mix.wpMix_nil]
      simp only [List.map_cons, List.map_nil, List.getD_cons_succ, List.getD_cons_zero]
      repeat (go_big_quiet_step (fail))
      refine wpQuiet_nil ?_
      go_wp2_with fail
      go_ret
      exact ⟨rfl, gh⟩
  | some p =>
    obtain ⟨x, z⟩ := p
    rw [hI] at hg
    obtain ⟨cs, hrep, rfl⟩ := hg
    have HREP := Lib.hid hrep
    obtain ⟨l1, l2, l3, l4⟩ := lawIm lb k x z hI
    have LI := Lib.hid l3
    have IP := Lib.hid l4
    clear l3 l4 hI
    obtain ⟨u3, u4, rfl, hl3, hl4⟩ := hrep
    obtain ⟨u3', rows3, e3, hrow3, hl30, a3, cap3, rfl, hd3⟩ := hl3
    simp only [List.cons.injEq, and_true] at e3
    subst e3
    obtain ⟨u4', rows4, e4, hrow4, hl40, a4, cap4, rfl, hd4⟩ := hl4
    simp only [List.cons.injEq, and_true] at e4
    subst e4
    clear hrow3 hl30 hd3 hrow4 hl40 hd4
    obtain ⟨cl1, cl2⟩ := capLe RB.out
    obtain ⟨yy, hyy⟩ := isSome RB.out (by omega)
    subst hyy
    have hnk : ¬ cap0 = k := by omega
    have hd1 : decide (z < k) = false := decide_eq_false (by omega)
    have hd2 : decide (lb.length < z) = false := decide_eq_false (by omega)
    simp only [packA]
    go_wp2_with fail
    have kI := Blk.new w2 [.complex .f64 (flt.F x.floor.1) (flt.F x.floor.2), .complex .f64 (flt.F x.last.1) (flt.F x.last.2), .int .i64 x.gen, .slice a3 x.log.length cap3, .slice a4 x.seen.length cap4] 62
    have alI := (Below.refl w2.heap.size w2).alloc (Nat.le_refl _) (.cells #[.complex .f64 (flt.F x.floor.1) (flt.F x.floor.2), .complex .f64 (flt.F x.last.1) (flt.F x.last.2), .int .i64 x.gen, .slice a3 x.log.length cap3, .slice a4 x.seen.length cap4] 62)
    have gA := (hb1.trans (hb2.mono hb1.size)).alloc (Nat.le_trans hb1.size hb2.size) (.cells #[.complex .f64 (flt.F x.floor.1) (flt.F x.floor.2), .complex .f64 (flt.F x.last.1) (flt.F x.last.2), .int .i64 x.gen, .slice a3 x.log.length cap3, .slice a4 x.seen.length cap4] 62)
    refine (mget.views_any _ lb k _ (RB.out.below gA (Nat.le_refl _)) (by omega) (by omega)).mono ?_
    rintro r w3 ⟨hb3, hg3⟩
    have gB := gA.trans (hb3.mono gA.size)
    have kI3 := kI.below hb3 kI.lt
    have gJ := (alI.trans (hb3.mono alI.size)).drew
    cases hV : getL getVw lb k with
    | none =>
      rw [hV] at hg3
      subst hg3
      go_wp2_with fail
      have gX := kI3.drew
      have : Nonempty (Cls w2.heap.size [.complex .f64 (flt.F x.floor.1) (flt.F x.floor.2), .complex .f64 (flt.F x.last.1) (flt.F x.last.2), .int .i64 x.gen, .slice a3 x.log.length cap3, .slice a4 x.seen.length cap4]) := ⟨⟨_, gX⟩⟩
      have gx0 : ∀ y : Cls w2.heap.size [.complex .f64 (flt.F x.floor.1) (flt.F x.floor.2), .complex .f64 (flt.F x.last.1) (flt.F x.last.2), .int .i64 x.gen, .slice a3 x.log.length cap3, .slice a4 x.seen.length cap4], y.val.cell? ⟨w2.heap.size, 0, none⟩ = some _ := fun y => y.2.cell (j := 0) rfl
      have gx1 : ∀ y : Cls w2.heap.size [.complex .f64 (flt.F x.floor.1) (flt.F x.floor.2), .complex .f64 (flt.F x.last.1) (flt.F x.last.2), .int .i64 x.gen, .slice a3 x.log.length cap3, .slice a4 x.seen.length cap4], y.val.cell? ⟨w2.heap.size, 1, none⟩ = some _ := fun y => y.2.cell (j := 1) rfl
      have gx2 : ∀ y : Cls w2.heap.size [.complex .f64 (flt.F x.floor.1) (flt.F x.floor.2), .complex .f64 (flt.F x.last.1) (flt.F x.last.2), .int .i64 x.gen, .slice a3 x.log.length cap3, .slice a4 x.seen.length cap4], y.val.cell? ⟨w2.heap.size, 2, none⟩ = some _ := fun y => y.2.cell (j := 2) rfl
      have gx3 : ∀ y : Cls w2.heap.size [.complex .f64 (flt.F x.floor.1) (flt.F x.floor.2), .complex .f64 (flt.F x.last.1) (flt.F x.last.2), .int .i64 x.gen, .slice a3 x.log.length cap3, .slice a4 x.seen.length cap4], y.val.cell? ⟨w2.heap.size, 3, none⟩ = some _ := fun y => y.2.cell (j := 3) rfl
      have gx4 : ∀ y : Cls w2.heap.size [.complex .f64 (flt.F x.floor.1) (flt.F x.floor.2), .complex .f64 (flt.F x.last.1) (flt.F x.last.2), .int .i64 x.gen, .slice a3 x.log.length cap3, .slice a4 x.seen.length cap4], y.val.cell? ⟨w2.heap.size, 4, none⟩ = some _ := fun y => y.2.cell (j := 4) rfl
      refine mix.wp_region_mix (fun x' => ∃ y : Cls w2.heap.size [.complex .f64 (flt.F x.floor.1) (flt.F x.floor.2), .complex .f64 (flt.F x.last.1) (flt.F x.last.2), .int .i64 x.gen, .slice a3 x.log.length cap3, .slice a4 x.seen.length cap4], x' = y.val) mix.noOper [([0, 1, 2, 3, 4, 5, 6, 7, 8, 9, 10, 11, 12, 14, 15, 16, 17], 13), ([], 18)] [19, 20, 21, 22, 23, 24, 25, 26, 27, 28, 29] (by kernel_rfl) (by kernel_rfl) (fun _ _ _ d _ h => by cases d <;> exact h) ?_ ?_
      · exact ⟨⟨_, gX⟩, rfl⟩
      rw [mix.wpMix_cons]
      simp only [List.map_cons, List.map_nil, List.getD_cons_succ, List.getD_cons_zero]
      repeat (go_big_quiet_step (fail))
      refine wpQuiet_nil ?_
      refine mix.callAt_step (by rfl) (fun K hK => ?_)
      go_simp
      refine (image_any x [.complex .f64 (flt.F x.floor.1) (flt.F x.floor.2), .complex .f64 (flt.F x.last.1) (flt.F x.last.2), .int .i64 x.gen, .slice a3 x.log.length cap3, .slice a4 x.seen.length cap4] _ _ (rIm.keep (fun b _ hb => gJ.block b hb) HREP.out) IP.out (by have h := congrArg List.length LI.out; unfold seg at h; rw [List.length_take, List.length_drop] at h; omega)).mono ?_
      rintro r i3 ⟨y3, rfl, gq⟩
      have gqb := entref.Puts.below0 gq
      have gY := gX.below gqb gX.lt
      have gi := gB.drew.trans (gqb.mono gB.drew.size)
      go_wp2_with fail
      refine ⟨⟨⟨_, gY⟩, rfl⟩, ?_⟩
      rw [mix.wpMix_cons]
      simp only [List.map_nil, List.getD_cons_succ, List.getD_cons_zero]
      refine wpQuiet_nil ?_
      refine mix.callAt_step (by rfl) (fun K hK => ?_)
      go_simp
      refine (same_any _ _ _ (seg lb k z) _ gq.has.rd (subRd (RB.out.below gi (Nat.le_refl _)) k z (by omega) (by omega))).mono ?_
      rintro r i4 ⟨rfl, gif⟩
      rw [LI.out]
      simp only [decide_true]
      have gZ := gY.below gif gY.lt
      have gH := gi.trans (gif.mono gi.size)
      have gL := (Below.refl w3.heap.size w3).drew.trans (gqb.trans (gif.mono gqb.size))
      have gK := gL.drew
      go_wp2_with fail
      refine ⟨⟨⟨_, gZ⟩, rfl⟩, ?_⟩
      rw [mix.wpMix_nil]
      simp only [List.map_cons, List.map_nil, List.getD_cons_succ, List.getD_cons_zero]
      repeat (go_big_quiet_step (fail))
      refine wpQuiet_nil ?_
      clear gx0 gx1 gx2 gx3 gx4
      go_wp2_with fail
      refine mix.wp_region_mix (fun _ => True) mix.noOper [([0, 1, 2, 3, 4, 5, 6, 7, 8, 9, 10, 11, 12, 14, 15, 16, 17], 13), ([], 18)] [19, 20, 21, 22, 23, 24, 25, 26, 27, 28, 29, 30, 31, 32, 33, 34] (by kernel_rfl) (by kernel_rfl) (fun _ _ _ d _ h => by cases d <;> exact h) ?_ ?_
      · trivial
      rw [mix.wpMix_cons]
      simp only [List.map_cons, List.map_nil, List.getD_cons_succ, List.getD_cons_zero]
      repeat (go_big_quiet_step (fail))
      refine wpQuiet_nil ?_
      refine mix.callAt_skip (by rfl) ⟨trivial, ?_⟩
      simp only [Act.put, List.setIfInBounds_toArray, List.set_cons_zero, List.set_cons_succ]
      rw [mix.wpMix_cons]
      simp only [List.map_nil, List.getD_cons_succ, List.getD_cons_zero]
      refine wpQuiet_nil ?_
      refine mix.callAt_skip (by rfl) ⟨trivial, ?_⟩
      simp only [Act.put, List.setIfInBounds_toArray, List.set_cons_zero, List.set_cons_succ]
      rw [mix.wpMix_nil]
      simp only [List.map_cons, List.map_nil, List.getD_cons_succ, List.getD_cons_zero]
      repeat (go_big_quiet_step (fail))
      refine wpQuiet_nil ?_
      go_wp2_with fail
      go_ret
      exact ⟨rfl, gH.drew⟩
    | some q =>
      obtain ⟨vs, z2⟩ := q
      rw [hV] at hg3
      obtain ⟨cs3, hrep3, rfl⟩ := hg3
      obtain ⟨ol1, ol2, ol3, ol4⟩ := (getL_law lawVw) lb k vs z2 hV
      have LO := Lib.hid ol3
      have OP := Lib.hid ol4.2
      have hvl := ol4.1
      clear ol3 ol4 hV
      have HREP3 := Lib.hid hrep3
      obtain ⟨u5, rows5, rfl, hrow5, hl5, a5, cap5, rfl, hd5⟩ := hrep3
      simp only [packV, List.headD_cons]
      clear hrow5 hl5 hd5
      obtain ⟨oc1, oc2⟩ := capLe RB.out
      have ohnk : ¬ cap0 = k := by omega
      have ohd1 : decide (z2 < k) = false := decide_eq_false (by omega)
      have ohd2 : decide (lb.length < z2) = false := decide_eq_false (by omega)
      go_wp2_with fail
      have gX := kI3.drew
      have : Nonempty (Cls w2.heap.size [.complex .f64 (flt.F x.floor.1) (flt.F x.floor.2), .complex .f64 (flt.F x.last.1) (flt.F x.last.2), .int .i64 x.gen, .slice a3 x.log.length cap3, .slice a4 x.seen.length cap4]) := ⟨⟨_, gX⟩⟩
      have gx0 : ∀ y : Cls w2.heap.size [.complex .f64 (flt.F x.floor.1) (flt.F x.floor.2), .complex .f64 (flt.F x.last.1) (flt.F x.last.2), .int .i64 x.gen, .slice a3 x.log.length cap3, .slice a4 x.seen.length cap4], y.val.cell? ⟨w2.heap.size, 0, none⟩ = some _ := fun y => y.2.cell (j := 0) rfl
      have gx1 : ∀ y : Cls w2.heap.size [.complex .f64 (flt.F x.floor.1) (flt.F x.floor.2), .complex .f64 (flt.F x.last.1) (flt.F x.last.2), .int .i64 x.gen, .slice a3 x.log.length cap3, .slice a4 x.seen.length cap4], y.val.cell? ⟨w2.heap.size, 1, none⟩ = some _ := fun y => y.2.cell (j := 1) rfl
      have gx2 : ∀ y : Cls w2.heap.size [.complex .f64 (flt.F x.floor.1) (flt.F x.floor.2), .complex .f64 (flt.F x.last.1) (flt.F x.last.2), .int .i64 x.gen, .slice a3 x.log.length cap3, .slice a4 x.seen.length cap4], y.val.cell? ⟨w2.heap.size, 2, none⟩ = some _ := fun y => y.2.cell (j := 2) rfl
      have gx3 : ∀ y : Cls w2.heap.size [.complex .f64 (flt.F x.floor.1) (flt.F x.floor.2), .complex .f64 (flt.F x.last.1) (flt.F x.last.2), .int .i64 x.gen, .slice a3 x.log.length cap3, .slice a4 x.seen.length cap4], y.val.cell? ⟨w2.heap.size, 3, none⟩ = some _ := fun y => y.2.cell (j := 3) rfl
      have gx4 : ∀ y : Cls w2.heap.size [.complex .f64 (flt.F x.floor.1) (flt.F x.floor.2), .complex .f64 (flt.F x.last.1) (flt.F x.last.2), .int .i64 x.gen, .slice a3 x.log.length cap3, .slice a4 x.seen.length cap4], y.val.cell? ⟨w2.heap.size, 4, none⟩ = some _ := fun y => y.2.cell (j := 4) rfl
      refine mix.wp_region_mix (fun x' => ∃ y : Cls w2.heap.size [.complex .f64 (flt.F x.floor.1) (flt.F x.floor.2), .complex .f64 (flt.F x.last.1) (flt.F x.last.2), .int .i64 x.gen, .slice a3 x.log.length cap3, .slice a4 x.seen.length cap4], x' = y.val) mix.noOper [([0, 1, 2, 3, 4, 5, 6, 7, 8, 9, 10, 11, 12, 14, 15, 16, 17], 13), ([], 18)] [19, 20, 21, 22, 23, 24, 25, 26, 27, 28, 29] (by kernel_rfl) (by kernel_rfl) (fun _ _ _ d _ h => by cases d <;> exact h) ?_ ?_
      · exact ⟨⟨_, gX⟩, rfl⟩
      rw [mix.wpMix_cons]
      simp only [List.map_cons, List.map_nil, List.getD_cons_succ, List.getD_cons_zero]
      repeat (go_big_quiet_step (fail))
      refine wpQuiet_nil ?_
      refine mix.callAt_step (by rfl) (fun K hK => ?_)
      go_simp
      refine (image_any x [.complex .f64 (flt.F x.floor.1) (flt.F x.floor.2), .complex .f64 (flt.F x.last.1) (flt.F x.last.2), .int .i64 x.gen, .slice a3 x.log.length cap3, .slice a4 x.seen.length cap4] _ _ (rIm.keep (fun b _ hb => gJ.block b hb) HREP.out) IP.out (by have h := congrArg List.length LI.out; unfold seg at h; rw [List.length_take, List.length_drop] at h; omega)).mono ?_
      rintro r i3 ⟨y3, rfl, gq⟩
      have gqb := entref.Puts.below0 gq
      have gY := gX.below gqb gX.lt
      have gi := gB.drew.trans (gqb.mono gB.drew.size)
      go_wp2_with fail
      refine ⟨⟨⟨_, gY⟩, rfl⟩, ?_⟩
      rw [mix.wpMix_cons]
      simp only [List.map_nil, List.getD_cons_succ, List.getD_cons_zero]
      refine wpQuiet_nil ?_
      refine mix.callAt_step (by rfl) (fun K hK => ?_)
      go_simp
      refine (same_any _ _ _ (seg lb k z) _ gq.has.rd (subRd (RB.out.below gi (Nat.le_refl _)) k z (by omega) (by omega))).mono ?_
      rintro r i4 ⟨rfl, gif⟩
      rw [LI.out]
      simp only [decide_true]
      have gZ := gY.below gif gY.lt
      have gH := gi.trans (gif.mono gi.size)
      have gL := (Below.refl w3.heap.size w3).drew.trans (gqb.trans (gif.mono gqb.size))
      have gK := gL.drew
      go_wp2_with fail
      refine ⟨⟨⟨_, gZ⟩, rfl⟩, ?_⟩
      rw [mix.wpMix_nil]
      simp only [List.map_cons, List.map_nil, List.getD_cons_succ, List.getD_cons_zero]
      repeat (go_big_quiet_step (fail))
      refine wpQuiet_nil ?_
      clear gx0 gx1 gx2 gx3 gx4
      go_wp2_with fail
      refine mix.wp_region_mix (fun _ => True) mix.noOper [([0, 1, 2, 3, 4, 5, 6, 7, 8, 9, 10, 11, 12, 14, 15, 16, 17], 13), ([], 18)] [19, 20, 21, 22, 23, 24, 25, 26, 27, 28, 29, 30, 31, 32, 33, 34] (by kernel_rfl) (by kernel_rfl) (fun _ _ _ d _ h => by cases d <;> exact h) ?_ ?_
      · trivial
      rw [mix.wpMix_cons]
      simp only [List.map_cons, List.map_nil, List.getD_cons_succ, List.getD_cons_zero]
      repeat (go_big_quiet_step (fail))
      refine wpQuiet_nil ?_
      refine mix.callAt_step (by rfl) (fun K hK => ?_)
      go_simp
      refine (views_any _ vs _ _ ((list rVw).keep (fun b _ hb => gK.block b hb) HREP3.out) OP.out hvl (by have h := congrArg List.length LO.out; unfold seg at h; rw [List.length_take, List.length_drop] at h; omega)).mono ?_
      rintro r u3 ⟨y2, rfl, gp⟩
      have gb := entref.Puts.below0 gp
      have gg := gH.drew.trans (gb.mono gH.drew.size)
      go_wp2_with fail
      refine ⟨trivial, ?_⟩
      rw [mix.wpMix_cons]
      simp only [List.map_nil, List.getD_cons_succ, List.getD_cons_zero]
      refine wpQuiet_nil ?_
      refine mix.callAt_step (by rfl) (fun K hK => ?_)
      go_simp
      refine (same_any _ _ _ (seg lb k z2) _ gp.has.rd (subRd (RB.out.below gg (Nat.le_refl _)) k z2 (by omega) (by omega))).mono ?_
      rintro r u4 ⟨rfl, gf⟩
      rw [LO.out]
      simp only [decide_true]
      have gh := gg.trans (gf.mono gg.size)
      go_wp2_with fail
      refine ⟨trivial, ?_⟩
      rw [mix.wpMix_nil]
      simp only [List.map_cons, List.map_nil, List.getD_cons_succ, List.getD_cons_zero]
      repeat (go_big_quiet_step (fail))
      refine wpQuiet_nil ?_
      go_wp2_with fail
      go_ret
      exact ⟨rfl, gh⟩

set_option maxRecDepth 100000 in
theorem lifted (os : Os) (started : os.Started) (H : Type) (enc : TypeId × Value → H) :
    ReturnsInHanded {} Try.checked os 11 .any (Rows.msgPartsSpec.pre6 enc Try.prog Try.f11 Rows.msgPartsRow.domain false) (Rows.msgPartsSpec.post enc Try.prog Try.f11 false true false false) := by
  refine returnsInHanded_of_change (C := Try.checked) own started (by kernel_rfl) Try.func11
    (ChangeSpec.witness6 (enc := enc) (C := Try.checked) false ⟨#[], #[.slice none 0 0, .int .i64 0], []⟩ 8 (by kernel_rfl) (by kernel_rfl) (by kernel_rfl) (by kernel_rfl)) ?_
  intro W base args ds gs before hval0 hW hcnd _
  have hval : ∀ (j : Nat) t v, Try.f11.params[j]? = some t → args[j]? = some v → Value.okWide Try.prog W .any base t v := hval0
  have hW' := hW
  obtain ⟨p, q, hA0, hV, rfl, hfz, hnd⟩ := hW
  have hA : DataW.TrodAll enc Try.prog W 0 (fun _ => true) true Try.f11.params.toList args.toList ds p := hA0
  rw [Try.params11] at hA hval
  obtain ⟨v0, vs0, d0, ds0, p0, q0, hargs, rfl, rfl, h0, r0⟩ := trodAll_cons hA
  obtain ⟨v1, vs1, d1, ds1, p1, q1, rfl, rfl, rfl, h1, r1⟩ := trodAll_cons r0
  obtain ⟨rfl, rfl, rfl⟩ := trodAll_nil r1
  obtain rfl : args = #[v0, v1] := by cases args; simp_all
  obtain ⟨rfl, rfl⟩ := trodVars_none hV
  obtain ⟨a0, len0, cap0, rfl⟩ := okWide_slice Try.underlying24 (hval 0 24 v0 rfl rfl)
  have k0 := h0
  have lt0 : ∀ x ∈ p0, x.block < W.heap.size := by obtain ⟨m, hm⟩ := k0; exact DataW.trod_lt m _ _ _ hm
  obtain ⟨z0, w0⟩ : ∃ zs, IsRow .u8 W a0 len0 cap0 zs := by
    obtain ⟨fuel, hf⟩ := h0
    rcases open_ints Try.underlying24 Try.underlying5 (by kernel_rfl) hf with ⟨hcs, _⟩ | ⟨x, l, c, zs, hcs, _, hl, hm, hz, _, hcell, hwz⟩
    · simp [Value.cells] at hcs
      obtain ⟨rfl, rfl, rfl⟩ := hcs
      exact ⟨[], .inl ⟨rfl, rfl, rfl, rfl⟩⟩
    · simp [Value.cells] at hcs
      obtain ⟨rfl, rfl, rfl⟩ := hcs
      exact ⟨zs, .inr ⟨_, rfl, hl, hm, by simpa using hz, hcell, hwz⟩⟩
  obtain ⟨a1, rfl, rfl, rfl, w1⟩ := open_int Try.underlying3 (hval 1 3 v1 rfl rfl) h1
  clear hA0 hval0
  refine (walk a0 len0 cap0 z0 a1 W w0 w1).mono fun e W' ⟨he, bel⟩ => ?_
  subst he
  exact ⟨_, rfl, _, _, _, [], _, [], hW', trodAll_mk1 (shut_bool Try.underlying4 _), (trodAll_cons_mk (Below.trod laidOut (by kernel_rfl) (of_decide_eq_true (by kernel_rfl)) k0 bel lt0) (trodAll_cons_mk (shut_int Try.underlying3 w1) trodAll_mk0)), rfl, bel.frame _, fun h => by cases h⟩

theorem over : Rows.msgPartsRow.holds Try.pinned (OpenSpec.ofChange Rows.msgPartsSpec) :=
  OpenClaim.holds_of_wide 11 Try.f11 rfl rfl rfl rfl rfl rfl rfl ⟨rfl, rfl, rfl, rfl, rfl⟩ rfl rfl rfl rfl rfl (by kernel_rfl) Try.func11 (by kernel_rfl)
    (of_decide_eq_true (by kernel_rfl)) (by unfold Func.isWrapper; first | (rw [if_pos (by decide +kernel)]; kernel_rfl) | (rw [if_neg (by decide +kernel)]; exact ⟨rfl, rfl⟩))
    (fun os started H enc _ => lifted os started H enc)

/-- The statement. -/
theorem proved : Rows.MsgPartsSaid := over
#print axioms proved
end Go.Proofs.Ytolgbnpginifkaa.msgParts
