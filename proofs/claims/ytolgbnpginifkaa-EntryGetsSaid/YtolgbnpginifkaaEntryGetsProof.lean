/- For every slice of bytes and every place, EntryGets returns true and leaves its arguments as they were. No conditions. -/
import Derived.Test.YtolgbnpginifkaaRows
import Derived.WalkKit
import Derived.ProofKit
import Derived.OpenShut
import Derived.ShutString
import Derived.ChangeOld
import Derived.Below
import Derived.Laws.Cover2
import Derived.Test.YtolgbnpginifkaaAwakeE
namespace Go.Proofs.Ytolgbnpginifkaa.entryGets
open Go.ChangeShapes Go.WideShapes Go.ChangeAt Go.RowKit
open Go.ChangeMaps (open_string shut_string)
set_option linter.unusedVariables false

theorem own : ownKnob Try.prog.godebug = none := by kernel_rfl
theorem laidOut : laidOutB Try.prog = true := by kernel_rfl

/-- What the walk is told of a slice of integers that came in: it is nil; or it leads to a row of 'cap' cells, the numbers 'zs' (the first 'len' are its elements, the rest its spare room), each fitting its kind. -/
def IsRow (k : IntKind) (w : World) (a : Option Addr) (len cap : Nat) (zs : List Int) : Prop :=
  (a = none ∧ len = 0 ∧ cap = 0 ∧ zs = []) ∨
  ∃ x, a = some x ∧ len ≤ cap ∧ cap ≤ maxLen ∧ zs.length = cap ∧ (∀ i, i < zs.length → w.cell? (x.add i) = some (.int k (zs.getD i 0))) ∧ ∀ n ∈ zs, (Lit.int k n).wf = true

open codec st put ref get blk ent entget
/-- A world in which block b holds the cells cs. -/
def Cls (b : Nat) (cs : List Value) := {y : World // Blk y b cs}
theorem capLe {w : World} {a : Option Addr} {n cap : Nat} {l : List UInt8} (h : Rd w (.slice a n cap) l) : n ≤ cap ∧ cap ≤ 9223372036854775807 := by
  obtain ⟨a', cap', e, h1, h2, _⟩ := h
  simp only [Value.slice.injEq] at e
  obtain ⟨rfl, rfl, rfl⟩ := e
  unfold maxLen at h2
  exact ⟨h1, by omega⟩
theorem isSome {w : World} {a : Option Addr} {n cap : Nat} {l : List UInt8} (h : Rd w (.slice a n cap) l) (hl : 0 < l.length) : ∃ y, a = some y := by
  obtain ⟨a', cap', e, h1, h2, hc⟩ := h
  simp only [Value.slice.injEq] at e
  obtain ⟨rfl, rfl, rfl⟩ := e
  obtain ⟨y, hy, _⟩ := hc 0 _ (List.getElem?_eq_getElem hl)
  exact ⟨y, hy⟩
/-- A slice of a slice. -/
theorem subRd {w : World} {y : Addr} {n cap : Nat} {l : List UInt8} (h : Rd w (.slice (some y) n cap) l) (lo hi : Nat) (h1 : lo ≤ hi) (h2 : hi ≤ l.length) : Rd w (.slice (some (y.add lo)) (hi - lo) (cap - lo)) (seg l lo hi) := by
  obtain ⟨a', cap', e, h3, h4, hc⟩ := h
  simp only [Value.slice.injEq] at e
  obtain ⟨rfl, rfl, rfl⟩ := e
  have hl : (seg l lo hi).length = hi - lo := by unfold seg; rw [List.length_take, List.length_drop]; omega
  refine ⟨_, _, by rw [hl], by rw [hl]; omega, by omega, fun i c hi' => ?_⟩
  have hil : i < hi - lo := by rw [← hl]; exact (List.getElem?_eq_some_iff.1 hi').1
  unfold seg at hi'
  rw [List.getElem?_take, if_pos hil, List.getElem?_drop] at hi'
  obtain ⟨x, hx, hcell⟩ := hc _ c hi'
  cases hx
  exact ⟨_, rfl, by rw [Addr.add_add]; exact hcell⟩

set_option maxRecDepth 100000 in
set_option maxHeartbeats 4000000 in
theorem walk (a0 : Option Addr) (len0 cap0 : Nat) (z0 : List Int) (a1 : Int) (w : World) (w0 : IsRow .u8 w a0 len0 cap0 z0) (w1 : (Lit.int .i64 a1).wf = true) :
    Calls Try.prog 8 #[.slice a0 len0 cap0, .int .i64 a1] w fun e w' => e = .returned (.bool true) ∧ Below w.heap.size w w' := by
  have i1 := bounds_i64 w1
  obtain ⟨lb, rfl, rb⟩ := Rd.ofRow w0
  clear w0
  have RB := Lib.hid rb
  clear rb
  by_cases h0 : 3000 < lb.length
  · skip
    go_enter Try.func8, Try.ntmps8
    go_wp2_with fail
    refine (awake5.awake_any _).mono ?_
    rintro r w1 ⟨rfl, hb1⟩
    go_wp2_with fail
    refine (awake5.awake_any _).mono ?_
    rintro r w2 ⟨rfl, hb2⟩
    go_wp2_with fail
    go_ret
    exact ⟨rfl, hb1.trans (hb2.mono hb1.size)⟩
  by_cases h1 : a1 < 0
  · skip
    go_enter Try.func8, Try.ntmps8
    go_wp2_with fail
    refine (awake5.awake_any _).mono ?_
    rintro r w1 ⟨rfl, hb1⟩
    go_wp2_with fail
    refine (awake5.awake_any _).mono ?_
    rintro r w2 ⟨rfl, hb2⟩
    go_wp2_with fail
    go_ret
    exact ⟨rfl, hb1.trans (hb2.mono hb1.size)⟩
  by_cases h2 : 4000 < a1
  · skip
    go_enter Try.func8, Try.ntmps8
    go_wp2_with fail
    refine (awake5.awake_any _).mono ?_
    rintro r w1 ⟨rfl, hb1⟩
    go_wp2_with fail
    refine (awake5.awake_any _).mono ?_
    rintro r w2 ⟨rfl, hb2⟩
    go_wp2_with fail
    go_ret
    exact ⟨rfl, hb1.trans (hb2.mono hb1.size)⟩
  obtain ⟨k, rfl⟩ : ∃ k : Nat, a1 = k := ⟨a1.toNat, by omega⟩
  have hst : ∀ (x y : Nat) (w : World) (a : Addr) (q : Mode), (store a (.complex .f64 x y) q).run Try.prog w = stored Try.prog w a (.complex .f64 x y) q := fun x y w a q => run_store Try.prog w a _ q rfl
  have hce := awake5.equalC
  have hq0 := Lib.hid (ver.eq_refl_F 0 (by omega) (by omega))
  have hq : (FloatKind.f64.format.order 0 0 == some Ordering.eq) = true := by have := hq0.out; rw [awake5.zBits] at this; exact this
  go_enter Try.func8, Try.ntmps8
  go_wp2_with fail
  refine (awake5.awake_any _).mono ?_
  rintro r w1 ⟨rfl, hb1⟩
  go_wp2_with fail
  refine (entget.ent_any _ lb k w1 (RB.out.below hb1 (Nat.le_refl _)) (by omega) (by omega)).mono ?_
  rintro r w2 ⟨rfl, hb2⟩
  cases hE : getE lb k with
  | none =>
    simp only [vE, zE]
    go_wp2_with fail
    have kE := Blk.new w2 (zE) 48
    have gA := (hb1.trans (hb2.mono hb1.size)).alloc (Nat.le_trans hb1.size hb2.size) (.cells (zE).toArray 48)
    refine (entget.op_any _ lb k _ (RB.out.below gA (Nat.le_refl _)) (by omega) (by omega)).mono ?_
    rintro r w3 ⟨rfl, hb3⟩
    have kE3 := kE.below hb3 kE.lt
    have gB := gA.trans (hb3.mono gA.size)
    cases hO : getO lb k with
    | none =>
      have kE4 := kE3.alloc (.cells (zO).toArray 52)
      have kO4 := Blk.new w3 (zO) 52
      have gC := gB.alloc gB.size (.cells (zO).toArray 52)
      simp only [vO, zO]
      go_wp2_with fail
      refine mix.wp_region_mix (fun _ => True) mix.noOper [([0, 1, 2, 3, 4, 5, 6, 7, 8, 9, 10, 11, 12, 14, 15, 16, 17], 13), ([], 18)] [19, 20, 21] (by kernel_rfl) (by kernel_rfl) (fun _ _ _ d _ h => by cases d <;> exact h) ?_ ?_
      · trivial
      rw [mix.wpMix_cons]
      simp only [List.map_cons, List.map_nil, List.getD_cons_succ, List.getD_cons_zero]
      repeat (go_big_quiet_step (fail))
      refine wpQuiet_nil ?_
      refine mix.callAt_skip (by rfl) ⟨trivial, ?_⟩
      simp only [Act.put, List.setIfInBounds_toArray, List.set_cons_zero, List.set_cons_succ]
      rw [mix.wpMix_cons]
      simp only [List.map_nil, List.getD_cons_succ, List.getD_cons_zero]
      refine wpQuiet_nil ?_
      refine mix.callAt_skip (by rfl) ⟨trivial, ?_⟩
      simp only [Act.put, List.setIfInBounds_toArray, List.set_cons_zero, List.set_cons_succ]
      rw [mix.wpMix_nil]
      simp only [List.map_cons, List.map_nil, List.getD_cons_succ, List.getD_cons_zero]
      repeat (go_big_quiet_step (fail))
      refine wpQuiet_nil ?_
      go_wp2_with fail
      refine mix.wp_region_mix (fun _ => True) mix.noOper [([0, 1, 2, 3, 4, 5, 6, 7, 8, 9, 10, 11, 12, 14, 15, 16, 17], 13), ([], 18)] [19, 20, 21] (by kernel_rfl) (by kernel_rfl) (fun _ _ _ d _ h => by cases d <;> exact h) ?_ ?_
      · trivial
      rw [mix.wpMix_cons]
      simp only [List.map_cons, List.map_nil, List.getD_cons_succ, List.getD_cons_zero]
      repeat (go_big_quiet_step (fail))
      refine wpQuiet_nil ?_
      refine mix.callAt_skip (by rfl) ⟨trivial, ?_⟩
      simp only [Act.put, List.setIfInBounds_toArray, List.set_cons_zero, List.set_cons_succ]
      rw [mix.wpMix_cons]
      simp only [List.map_nil, List.getD_cons_succ, List.getD_cons_zero]
      refine wpQuiet_nil ?_
      refine mix.callAt_skip (by rfl) ⟨trivial, ?_⟩
      simp only [Act.put, List.setIfInBounds_toArray, List.set_cons_zero, List.set_cons_succ]
      rw [mix.wpMix_nil]
      simp only [List.map_cons, List.map_nil, List.getD_cons_succ, List.getD_cons_zero]
      repeat (go_big_quiet_step (fail))
      refine wpQuiet_nil ?_
      have hlt := kE3.lt
      have zc0 := (kE3).cell (j := 0) rfl
      have zc1 := (kE3).cell (j := 1) rfl
      have zc2 := (kE3).cell (j := 2) rfl
      have zc3 := (kE3).cell (j := 3) rfl
      have zc4 := (kE3).cell (j := 4) rfl
      have zc5 := (kE3).cell (j := 5) rfl
      have zc6 := (kE3).cell (j := 6) rfl
      have zc7 := (kE3).cell (j := 7) rfl
      have zc8 := (kE3).cell (j := 8) rfl
      have zc9 := (kE3).cell (j := 9) rfl
      have zc10 := (kE3).cell (j := 10) rfl
      have zo0 := (kO4).cell (j := 0) rfl
      have zo1 := (kO4).cell (j := 1) rfl
      have zo2 := (kO4).cell (j := 2) rfl
      have zo3 := (kO4).cell (j := 3) rfl
      have zo4 := (kO4).cell (j := 4) rfl
      go_wp2_with fail
      go_ret
      exact ⟨rfl, gC.drew.drew⟩
    | some q =>
      obtain ⟨o, z⟩ := q
      obtain ⟨ol1, ol2, ol3, on1, on2, om1, om2, om3⟩ := getO_seg hO
      have LO := Lib.hid ol3
      clear ol3 hO
      obtain ⟨oc1, oc2⟩ := capLe RB.out
      obtain ⟨yy, hyy⟩ := isSome RB.out (by omega)
      subst hyy
      have ohnk : ¬ cap0 = k := by omega
      have ohd1 : decide (z < k) = false := decide_eq_false (by omega)
      have ohd2 : decide (lb.length < z) = false := decide_eq_false (by omega)
      have kE4 := kE3.alloc (.cells (cO o).toArray 52)
      have kO4 := Blk.new w3 (cO o) 52
      have gC := gB.alloc gB.size (.cells (cO o).toArray 52)
      simp only [vO, cO]
      go_wp2_with fail
      refine mix.wp_region_mix (fun _ => True) mix.noOper [([0, 1, 2, 3, 4, 5, 6, 7, 8, 9, 10, 11, 12, 14, 15, 16, 17], 13), ([], 18)] [19, 20, 21] (by kernel_rfl) (by kernel_rfl) (fun _ _ _ d _ h => by cases d <;> exact h) ?_ ?_
      · trivial
      rw [mix.wpMix_cons]
      simp only [List.map_cons, List.map_nil, List.getD_cons_succ, List.getD_cons_zero]
      repeat (go_big_quiet_step (fail))
      refine wpQuiet_nil ?_
      refine mix.callAt_skip (by rfl) ⟨trivial, ?_⟩
      simp only [Act.put, List.setIfInBounds_toArray, List.set_cons_zero, List.set_cons_succ]
      rw [mix.wpMix_cons]
      simp only [List.map_nil, List.getD_cons_succ, List.getD_cons_zero]
      refine wpQuiet_nil ?_
      refine mix.callAt_skip (by rfl) ⟨trivial, ?_⟩
      simp only [Act.put, List.setIfInBounds_toArray, List.set_cons_zero, List.set_cons_succ]
      rw [mix.wpMix_nil]
      simp only [List.map_cons, List.map_nil, List.getD_cons_succ, List.getD_cons_zero]
      repeat (go_big_quiet_step (fail))
      refine wpQuiet_nil ?_
      go_wp2_with fail
      have gX := kO4.drew.drew
      have : Nonempty (Cls w3.heap.size (cO o)) := ⟨⟨_, kO4.drew.drew⟩⟩
      have gx0 : ∀ y : Cls w3.heap.size (cO o), y.val.cell? ⟨w3.heap.size, 0, none⟩ = some _ := fun y => y.2.cell (j := 0) rfl
      have gx1 : ∀ y : Cls w3.heap.size (cO o), y.val.cell? ⟨w3.heap.size, 1, none⟩ = some _ := fun y => y.2.cell (j := 1) rfl
      have gx2 : ∀ y : Cls w3.heap.size (cO o), y.val.cell? ⟨w3.heap.size, 2, none⟩ = some _ := fun y => y.2.cell (j := 2) rfl
      have gx3 : ∀ y : Cls w3.heap.size (cO o), y.val.cell? ⟨w3.heap.size, 3, none⟩ = some _ := fun y => y.2.cell (j := 3) rfl
      have gx4 : ∀ y : Cls w3.heap.size (cO o), y.val.cell? ⟨w3.heap.size, 4, none⟩ = some _ := fun y => y.2.cell (j := 4) rfl
      refine mix.wp_region_mix (fun x => ∃ y : Cls w3.heap.size (cO o), x = y.val) mix.noOper [([0, 1, 2, 3, 4, 5, 6, 7, 8, 9, 10, 11, 12, 14, 15, 16, 17], 13), ([], 18)] [19, 20, 21] (by kernel_rfl) (by kernel_rfl) (fun _ _ _ d _ h => by cases d <;> exact h) ?_ ?_
      · exact ⟨⟨_, gX⟩, rfl⟩
      rw [mix.wpMix_cons]
      simp only [List.map_cons, List.map_nil, List.getD_cons_succ, List.getD_cons_zero]
      repeat (go_big_quiet_step (fail))
      refine wpQuiet_nil ?_
      refine mix.callAt_step (by rfl) (fun K hK => ?_)
      go_simp
      refine (entref.op_any o _ (by omega) (by omega) (by omega) (by omega)).mono ?_
      rintro r u3 ⟨y2, rfl, gp⟩
      have gb := entref.Puts.below0 gp
      have gY := gX.below gb gX.lt
      have gg := gC.drew.drew.trans (gb.mono gC.drew.drew.size)
      have go := (kE4.drew.drew).below gb (Blk.lt (kE4.drew.drew))
      go_wp2_with fail
      refine ⟨⟨⟨_, gY⟩, rfl⟩, ?_⟩
      rw [mix.wpMix_cons]
      simp only [List.map_nil, List.getD_cons_succ, List.getD_cons_zero]
      refine wpQuiet_nil ?_
      refine mix.callAt_step (by rfl) (fun K hK => ?_)
      go_simp
      refine (same_any _ _ _ (seg lb k z) _ gp.has.rd (subRd (RB.out.below gg (Nat.le_refl _)) k z (by omega) (by omega))).mono ?_
      rintro r u4 ⟨rfl, gf⟩
      rw [LO.out]
      simp only [decide_true]
      have gZ := gY.below gf gY.lt
      have gq := go.below gf go.lt
      have gh := gg.trans (gf.mono gg.size)
      go_wp2_with fail
      refine ⟨⟨⟨_, gZ⟩, rfl⟩, ?_⟩
      rw [mix.wpMix_nil]
      simp only [List.map_cons, List.map_nil, List.getD_cons_succ, List.getD_cons_zero]
      repeat (go_big_quiet_step (fail))
      refine wpQuiet_nil ?_
      clear gx0 gx1 gx2 gx3 gx4
      have zc0 := (gq).cell (j := 0) rfl
      have zc1 := (gq).cell (j := 1) rfl
      have zc2 := (gq).cell (j := 2) rfl
      have zc3 := (gq).cell (j := 3) rfl
      have zc4 := (gq).cell (j := 4) rfl
      have zc5 := (gq).cell (j := 5) rfl
      have zc6 := (gq).cell (j := 6) rfl
      have zc7 := (gq).cell (j := 7) rfl
      have zc8 := (gq).cell (j := 8) rfl
      have zc9 := (gq).cell (j := 9) rfl
      have zc10 := (gq).cell (j := 10) rfl
      go_wp2_with fail
      go_ret
      exact ⟨rfl, gh⟩
  | some p =>
    obtain ⟨e, x⟩ := p
    obtain ⟨l1, l2, l3, f1, f2, n1, n2, n3, n4, m1, m2, m3⟩ := getE_seg hE
    have LE := Lib.hid l3
    clear l3 hE
    obtain ⟨cl1, cl2⟩ := capLe RB.out
    obtain ⟨y, hy⟩ := isSome RB.out (by omega)
    subst hy
    have hnk : ¬ cap0 = k := by omega
    have hd1 : decide (x < k) = false := decide_eq_false (by omega)
    have hd2 : decide (lb.length < x) = false := decide_eq_false (by omega)
    simp only [vE, cE]
    go_wp2_with fail
    have kE := Blk.new w2 (cE e) 48
    have gA := (hb1.trans (hb2.mono hb1.size)).alloc (Nat.le_trans hb1.size hb2.size) (.cells (cE e).toArray 48)
    refine (entget.op_any _ lb k _ (RB.out.below gA (Nat.le_refl _)) (by omega) (by omega)).mono ?_
    rintro r w3 ⟨rfl, hb3⟩
    have kE3 := kE.below hb3 kE.lt
    have gB := gA.trans (hb3.mono gA.size)
    cases hO : getO lb k with
    | none =>
      have kE4 := kE3.alloc (.cells (zO).toArray 52)
      have kO4 := Blk.new w3 (zO) 52
      have gC := gB.alloc gB.size (.cells (zO).toArray 52)
      simp only [vO, zO]
      go_wp2_with fail
      have hX := kE4.drew
      have : Nonempty (Cls w2.heap.size (cE e)) := ⟨⟨_, kE4.drew⟩⟩
      have hx0 : ∀ y : Cls w2.heap.size (cE e), y.val.cell? ⟨w2.heap.size, 0, none⟩ = some _ := fun y => y.2.cell (j := 0) rfl
      have hx1 : ∀ y : Cls w2.heap.size (cE e), y.val.cell? ⟨w2.heap.size, 1, none⟩ = some _ := fun y => y.2.cell (j := 1) rfl
      have hx2 : ∀ y : Cls w2.heap.size (cE e), y.val.cell? ⟨w2.heap.size, 2, none⟩ = some _ := fun y => y.2.cell (j := 2) rfl
      have hx3 : ∀ y : Cls w2.heap.size (cE e), y.val.cell? ⟨w2.heap.size, 3, none⟩ = some _ := fun y => y.2.cell (j := 3) rfl
      have hx4 : ∀ y : Cls w2.heap.size (cE e), y.val.cell? ⟨w2.heap.size, 4, none⟩ = some _ := fun y => y.2.cell (j := 4) rfl
      have hx5 : ∀ y : Cls w2.heap.size (cE e), y.val.cell? ⟨w2.heap.size, 5, none⟩ = some _ := fun y => y.2.cell (j := 5) rfl
      have hx6 : ∀ y : Cls w2.heap.size (cE e), y.val.cell? ⟨w2.heap.size, 6, none⟩ = some _ := fun y => y.2.cell (j := 6) rfl
      have hx7 : ∀ y : Cls w2.heap.size (cE e), y.val.cell? ⟨w2.heap.size, 7, none⟩ = some _ := fun y => y.2.cell (j := 7) rfl
      have hx8 : ∀ y : Cls w2.heap.size (cE e), y.val.cell? ⟨w2.heap.size, 8, none⟩ = some _ := fun y => y.2.cell (j := 8) rfl
      have hx9 : ∀ y : Cls w2.heap.size (cE e), y.val.cell? ⟨w2.heap.size, 9, none⟩ = some _ := fun y => y.2.cell (j := 9) rfl
      have hx10 : ∀ y : Cls w2.heap.size (cE e), y.val.cell? ⟨w2.heap.size, 10, none⟩ = some _ := fun y => y.2.cell (j := 10) rfl
      refine mix.wp_region_mix (fun x => ∃ y : Cls w2.heap.size (cE e), x = y.val) mix.noOper [([0, 1, 2, 3, 4, 5, 6, 7, 8, 9, 10, 11, 12, 14, 15, 16, 17], 13), ([], 18)] [19, 20, 21] (by kernel_rfl) (by kernel_rfl) (fun _ _ _ d _ h => by cases d <;> exact h) ?_ ?_
      · exact ⟨⟨_, hX⟩, rfl⟩
      rw [mix.wpMix_cons]
      simp only [List.map_cons, List.map_nil, List.getD_cons_succ, List.getD_cons_zero]
      repeat (go_big_quiet_step (fail))
      refine wpQuiet_nil ?_
      refine mix.callAt_step (by rfl) (fun K hK => ?_)
      go_simp
      refine (entref.ent_any e _ f1 f2 (by omega) (by omega) (by omega) (by omega) (by omega) (by omega) (by omega)).mono ?_
      rintro r u1 ⟨y1, rfl, hp⟩
      have hb := entref.Puts.below0 hp
      have hY := hX.below hb hX.lt
      have hg := gC.drew.trans (hb.mono gC.drew.size)
      have ho := (kO4.drew).below hb (Blk.lt (kO4.drew))
      go_wp2_with fail
      refine ⟨⟨⟨_, hY⟩, rfl⟩, ?_⟩
      rw [mix.wpMix_cons]
      simp only [List.map_nil, List.getD_cons_succ, List.getD_cons_zero]
      refine wpQuiet_nil ?_
      refine mix.callAt_step (by rfl) (fun K hK => ?_)
      go_simp
      refine (same_any _ _ _ (seg lb k x) _ hp.has.rd (subRd (RB.out.below hg (Nat.le_refl _)) k x (by omega) (by omega))).mono ?_
      rintro r u2 ⟨rfl, hf⟩
      rw [LE.out]
      simp only [decide_true]
      have hZ := hY.below hf hY.lt
      have hq := ho.below hf ho.lt
      have hh := hg.trans (hf.mono hg.size)
      go_wp2_with fail
      refine ⟨⟨⟨_, hZ⟩, rfl⟩, ?_⟩
      rw [mix.wpMix_nil]
      simp only [List.map_cons, List.map_nil, List.getD_cons_succ, List.getD_cons_zero]
      repeat (go_big_quiet_step (fail))
      refine wpQuiet_nil ?_
      clear hx0 hx1 hx2 hx3 hx4 hx5 hx6 hx7 hx8 hx9 hx10
      go_wp2_with fail
      refine mix.wp_region_mix (fun _ => True) mix.noOper [([0, 1, 2, 3, 4, 5, 6, 7, 8, 9, 10, 11, 12, 14, 15, 16, 17], 13), ([], 18)] [19, 20, 21] (by kernel_rfl) (by kernel_rfl) (fun _ _ _ d _ h => by cases d <;> exact h) ?_ ?_
      · trivial
      rw [mix.wpMix_cons]
      simp only [List.map_cons, List.map_nil, List.getD_cons_succ, List.getD_cons_zero]
      repeat (go_big_quiet_step (fail))
      refine wpQuiet_nil ?_
      refine mix.callAt_skip (by rfl) ⟨trivial, ?_⟩
      simp only [Act.put, List.setIfInBounds_toArray, List.set_cons_zero, List.set_cons_succ]
      rw [mix.wpMix_cons]
      simp only [List.map_nil, List.getD_cons_succ, List.getD_cons_zero]
      refine wpQuiet_nil ?_
      refine mix.callAt_skip (by rfl) ⟨trivial, ?_⟩
      simp only [Act.put, List.setIfInBounds_toArray, List.set_cons_zero, List.set_cons_succ]
      rw [mix.wpMix_nil]
      simp only [List.map_cons, List.map_nil, List.getD_cons_succ, List.getD_cons_zero]
      repeat (go_big_quiet_step (fail))
      refine wpQuiet_nil ?_
      have zo0 := (hq).cell (j := 0) rfl
      have zo1 := (hq).cell (j := 1) rfl
      have zo2 := (hq).cell (j := 2) rfl
      have zo3 := (hq).cell (j := 3) rfl
      have zo4 := (hq).cell (j := 4) rfl
      go_wp2_with fail
      go_ret
      exact ⟨rfl, hh.drew⟩
    | some q =>
      obtain ⟨o, z⟩ := q
      obtain ⟨ol1, ol2, ol3, on1, on2, om1, om2, om3⟩ := getO_seg hO
      have LO := Lib.hid ol3
      clear ol3 hO
      obtain ⟨oc1, oc2⟩ := capLe RB.out
      skip
      have ohnk : ¬ cap0 = k := by omega
      have ohd1 : decide (z < k) = false := decide_eq_false (by omega)
      have ohd2 : decide (lb.length < z) = false := decide_eq_false (by omega)
      have kE4 := kE3.alloc (.cells (cO o).toArray 52)
      have kO4 := Blk.new w3 (cO o) 52
      have gC := gB.alloc gB.size (.cells (cO o).toArray 52)
      simp only [vO, cO]
      go_wp2_with fail
      have hX := kE4.drew
      have : Nonempty (Cls w2.heap.size (cE e)) := ⟨⟨_, kE4.drew⟩⟩
      have hx0 : ∀ y : Cls w2.heap.size (cE e), y.val.cell? ⟨w2.heap.size, 0, none⟩ = some _ := fun y => y.2.cell (j := 0) rfl
      have hx1 : ∀ y : Cls w2.heap.size (cE e), y.val.cell? ⟨w2.heap.size, 1, none⟩ = some _ := fun y => y.2.cell (j := 1) rfl
      have hx2 : ∀ y : Cls w2.heap.size (cE e), y.val.cell? ⟨w2.heap.size, 2, none⟩ = some _ := fun y => y.2.cell (j := 2) rfl
      have hx3 : ∀ y : Cls w2.heap.size (cE e), y.val.cell? ⟨w2.heap.size, 3, none⟩ = some _ := fun y => y.2.cell (j := 3) rfl
      have hx4 : ∀ y : Cls w2.heap.size (cE e), y.val.cell? ⟨w2.heap.size, 4, none⟩ = some _ := fun y => y.2.cell (j := 4) rfl
      have hx5 : ∀ y : Cls w2.heap.size (cE e), y.val.cell? ⟨w2.heap.size, 5, none⟩ = some _ := fun y => y.2.cell (j := 5) rfl
      have hx6 : ∀ y : Cls w2.heap.size (cE e), y.val.cell? ⟨w2.heap.size, 6, none⟩ = some _ := fun y => y.2.cell (j := 6) rfl
      have hx7 : ∀ y : Cls w2.heap.size (cE e), y.val.cell? ⟨w2.heap.size, 7, none⟩ = some _ := fun y => y.2.cell (j := 7) rfl
      have hx8 : ∀ y : Cls w2.heap.size (cE e), y.val.cell? ⟨w2.heap.size, 8, none⟩ = some _ := fun y => y.2.cell (j := 8) rfl
      have hx9 : ∀ y : Cls w2.heap.size (cE e), y.val.cell? ⟨w2.heap.size, 9, none⟩ = some _ := fun y => y.2.cell (j := 9) rfl
      have hx10 : ∀ y : Cls w2.heap.size (cE e), y.val.cell? ⟨w2.heap.size, 10, none⟩ = some _ := fun y => y.2.cell (j := 10) rfl
      refine mix.wp_region_mix (fun x => ∃ y : Cls w2.heap.size (cE e), x = y.val) mix.noOper [([0, 1, 2, 3, 4, 5, 6, 7, 8, 9, 10, 11, 12, 14, 15, 16, 17], 13), ([], 18)] [19, 20, 21] (by kernel_rfl) (by kernel_rfl) (fun _ _ _ d _ h => by cases d <;> exact h) ?_ ?_
      · exact ⟨⟨_, hX⟩, rfl⟩
      rw [mix.wpMix_cons]
      simp only [List.map_cons, List.map_nil, List.getD_cons_succ, List.getD_cons_zero]
      repeat (go_big_quiet_step (fail))
      refine wpQuiet_nil ?_
      refine mix.callAt_step (by rfl) (fun K hK => ?_)
      go_simp
      refine (entref.ent_any e _ f1 f2 (by omega) (by omega) (by omega) (by omega) (by omega) (by omega) (by omega)).mono ?_
      rintro r u1 ⟨y1, rfl, hp⟩
      have hb := entref.Puts.below0 hp
      have hY := hX.below hb hX.lt
      have hg := gC.drew.trans (hb.mono gC.drew.size)
      have ho := (kO4.drew).below hb (Blk.lt (kO4.drew))
      go_wp2_with fail
      refine ⟨⟨⟨_, hY⟩, rfl⟩, ?_⟩
      rw [mix.wpMix_cons]
      simp only [List.map_nil, List.getD_cons_succ, List.getD_cons_zero]
      refine wpQuiet_nil ?_
      refine mix.callAt_step (by rfl) (fun K hK => ?_)
      go_simp
      refine (same_any _ _ _ (seg lb k x) _ hp.has.rd (subRd (RB.out.below hg (Nat.le_refl _)) k x (by omega) (by omega))).mono ?_
      rintro r u2 ⟨rfl, hf⟩
      rw [LE.out]
      simp only [decide_true]
      have hZ := hY.below hf hY.lt
      have hq := ho.below hf ho.lt
      have hh := hg.trans (hf.mono hg.size)
      go_wp2_with fail
      refine ⟨⟨⟨_, hZ⟩, rfl⟩, ?_⟩
      rw [mix.wpMix_nil]
      simp only [List.map_cons, List.map_nil, List.getD_cons_succ, List.getD_cons_zero]
      repeat (go_big_quiet_step (fail))
      refine wpQuiet_nil ?_
      clear hx0 hx1 hx2 hx3 hx4 hx5 hx6 hx7 hx8 hx9 hx10
      go_wp2_with fail
      have gX := hq.drew
      have : Nonempty (Cls w3.heap.size (cO o)) := ⟨⟨_, hq.drew⟩⟩
      have gx0 : ∀ y : Cls w3.heap.size (cO o), y.val.cell? ⟨w3.heap.size, 0, none⟩ = some _ := fun y => y.2.cell (j := 0) rfl
      have gx1 : ∀ y : Cls w3.heap.size (cO o), y.val.cell? ⟨w3.heap.size, 1, none⟩ = some _ := fun y => y.2.cell (j := 1) rfl
      have gx2 : ∀ y : Cls w3.heap.size (cO o), y.val.cell? ⟨w3.heap.size, 2, none⟩ = some _ := fun y => y.2.cell (j := 2) rfl
      have gx3 : ∀ y : Cls w3.heap.size (cO o), y.val.cell? ⟨w3.heap.size, 3, none⟩ = some _ := fun y => y.2.cell (j := 3) rfl
      have gx4 : ∀ y : Cls w3.heap.size (cO o), y.val.cell? ⟨w3.heap.size, 4, none⟩ = some _ := fun y => y.2.cell (j := 4) rfl
      refine mix.wp_region_mix (fun x => ∃ y : Cls w3.heap.size (cO o), x = y.val) mix.noOper [([0, 1, 2, 3, 4, 5, 6, 7, 8, 9, 10, 11, 12, 14, 15, 16, 17], 13), ([], 18)] [19, 20, 21] (by kernel_rfl) (by kernel_rfl) (fun _ _ _ d _ h => by cases d <;> exact h) ?_ ?_
      · exact ⟨⟨_, gX⟩, rfl⟩
      rw [mix.wpMix_cons]
      simp only [List.map_cons, List.map_nil, List.getD_cons_succ, List.getD_cons_zero]
      repeat (go_big_quiet_step (fail))
      refine wpQuiet_nil ?_
      refine mix.callAt_step (by rfl) (fun K hK => ?_)
      go_simp
      refine (entref.op_any o _ (by omega) (by omega) (by omega) (by omega)).mono ?_
      rintro r u3 ⟨y2, rfl, gp⟩
      have gb := entref.Puts.below0 gp
      have gY := gX.below gb gX.lt
      have gg := hh.drew.trans (gb.mono hh.drew.size)
      have go := (hZ.drew).below gb (Blk.lt (hZ.drew))
      go_wp2_with fail
      refine ⟨⟨⟨_, gY⟩, rfl⟩, ?_⟩
      rw [mix.wpMix_cons]
      simp only [List.map_nil, List.getD_cons_succ, List.getD_cons_zero]
      refine wpQuiet_nil ?_
      refine mix.callAt_step (by rfl) (fun K hK => ?_)
      go_simp
      refine (same_any _ _ _ (seg lb k z) _ gp.has.rd (subRd (RB.out.below gg (Nat.le_refl _)) k z (by omega) (by omega))).mono ?_
      rintro r u4 ⟨rfl, gf⟩
      rw [LO.out]
      simp only [decide_true]
      have gZ := gY.below gf gY.lt
      have gq := go.below gf go.lt
      have gh := gg.trans (gf.mono gg.size)
      go_wp2_with fail
      refine ⟨⟨⟨_, gZ⟩, rfl⟩, ?_⟩
      rw [mix.wpMix_nil]
      simp only [List.map_cons, List.map_nil, List.getD_cons_succ, List.getD_cons_zero]
      repeat (go_big_quiet_step (fail))
      refine wpQuiet_nil ?_
      clear gx0 gx1 gx2 gx3 gx4
      go_wp2_with fail
      go_ret
      exact ⟨rfl, gh⟩

set_option maxRecDepth 100000 in
theorem lifted (os : Os) (started : os.Started) (H : Type) (enc : TypeId × Value → H) :
    ReturnsInHanded {} Try.checked os 8 .any (Rows.entryGetsSpec.pre6 enc Try.prog Try.f8 Rows.entryGetsRow.domain false) (Rows.entryGetsSpec.post enc Try.prog Try.f8 false true false false) := by
  refine returnsInHanded_of_change (C := Try.checked) own started (by kernel_rfl) Try.func8
    (ChangeSpec.witness6 (enc := enc) (C := Try.checked) false ⟨#[], #[.slice none 0 0, .int .i64 0], []⟩ 8 (by kernel_rfl) (by kernel_rfl) (by kernel_rfl) (by kernel_rfl)) ?_
  intro W base args ds gs before hval0 hW hcnd _
  have hval : ∀ (j : Nat) t v, Try.f8.params[j]? = some t → args[j]? = some v → Value.okWide Try.prog W .any base t v := hval0
  have hW' := hW
  obtain ⟨p, q, hA0, hV, rfl, hfz, hnd⟩ := hW
  have hA : DataW.TrodAll enc Try.prog W 0 (fun _ => true) true Try.f8.params.toList args.toList ds p := hA0
  rw [Try.params8] at hA hval
  obtain ⟨v0, vs0, d0, ds0, p0, q0, hargs, rfl, rfl, h0, r0⟩ := trodAll_cons hA
  obtain ⟨v1, vs1, d1, ds1, p1, q1, rfl, rfl, rfl, h1, r1⟩ := trodAll_cons r0
  obtain ⟨rfl, rfl, rfl⟩ := trodAll_nil r1
  obtain rfl : args = #[v0, v1] := by cases args; simp_all
  obtain ⟨rfl, rfl⟩ := trodVars_none hV
  obtain ⟨a0, len0, cap0, rfl⟩ := okWide_slice Try.underlying24 (hval 0 24 v0 rfl rfl)
  have k0 := h0
  have lt0 : ∀ x ∈ p0, x.block < W.heap.size := by obtain ⟨m, hm⟩ := k0; exact DataW.trod_lt m _ _ _ hm
  obtain ⟨z0, w0⟩ : ∃ zs, IsRow .u8 W a0 len0 cap0 zs := by
    obtain ⟨fuel, hf⟩ := h0
    rcases open_ints Try.underlying24 Try.underlying5 (by kernel_rfl) hf with ⟨hcs, _⟩ | ⟨x, l, c, zs, hcs, _, hl, hm, hz, _, hcell, hwz⟩
    · simp [Value.cells] at hcs
      obtain ⟨rfl, rfl, rfl⟩ := hcs
      exact ⟨[], .inl ⟨rfl, rfl, rfl, rfl⟩⟩
    · simp [Value.cells] at hcs
      obtain ⟨rfl, rfl, rfl⟩ := hcs
      exact ⟨zs, .inr ⟨_, rfl, hl, hm, by simpa using hz, hcell, hwz⟩⟩
  obtain ⟨a1, rfl, rfl, rfl, w1⟩ := open_int Try.underlying3 (hval 1 3 v1 rfl rfl) h1
  clear hA0 hval0
  refine (walk a0 len0 cap0 z0 a1 W w0 w1).mono fun e W' ⟨he, bel⟩ => ?_
  subst he
  exact ⟨_, rfl, _, _, _, [], _, [], hW', trodAll_mk1 (shut_bool Try.underlying4 _), (trodAll_cons_mk (Below.trod laidOut (by kernel_rfl) (of_decide_eq_true (by kernel_rfl)) k0 bel lt0) (trodAll_cons_mk (shut_int Try.underlying3 w1) trodAll_mk0)), rfl, bel.frame _, fun h => by cases h⟩

theorem over : Rows.entryGetsRow.holds Try.pinned (OpenSpec.ofChange Rows.entryGetsSpec) :=
  OpenClaim.holds_of_wide 8 Try.f8 rfl rfl rfl rfl rfl rfl rfl ⟨rfl, rfl, rfl, rfl, rfl⟩ rfl rfl rfl rfl rfl (by kernel_rfl) Try.func8 (by kernel_rfl)
    (of_decide_eq_true (by kernel_rfl)) (by unfold Func.isWrapper; first | (rw [if_pos (by decide +kernel)]; kernel_rfl) | (rw [if_neg (by decide +kernel)]; exact ⟨rfl, rfl⟩))
    (fun os started H enc _ => lifted os started H enc)

/-- The statement. -/
theorem proved : Rows.EntryGetsSaid := over
#print axioms proved
end Go.Proofs.Ytolgbnpginifkaa.entryGets
