/- The contracts of entry.Get and entry.GetOp. -/
import Derived.Test.YtolgbnpginifkaaIntoV
import Derived.Test.YtolgbnpginifkaaEnt
import Derived.RegionTactic
namespace Go.Proofs.Ytolgbnpginifkaa.entget
open Go.ChangeShapes Go.WideShapes Go.ChangeAt Go.RowKit codec st get blk into ent
set_option linter.unusedVariables false

/-- Nothing yet. -/
def zE : List Value := [.complex .f64 0 0, .int .i64 0, .string ⟨#[]⟩, .string ⟨#[]⟩, .bool false, .bool false, .int .i64 0, .int .i64 0, .int .i64 0, .string ⟨#[]⟩, .bool false]
def zO : List Value := [.int .i64 0, .string ⟨#[]⟩, .string ⟨#[]⟩, .string ⟨#[]⟩, .bool false]
def cO (o : OpD) : List Value := [.int .i64 o.kind, .string ⟨o.key.toArray⟩, .string ⟨o.val.toArray⟩, .string ⟨o.old.toArray⟩, .bool o.has]
def cE (o : EnD) : List Value := [.complex .f64 (flt.F o.ep) (flt.F o.no), .int .i64 o.kind, .string ⟨o.key.toArray⟩, .string ⟨o.val.toArray⟩, .bool o.write, .bool o.del, .int .i64 o.sess, .int .i64 o.num, .int .i64 o.code, .string ⟨o.res.toArray⟩, .bool o.has]

def opS (l : List UInt8) (a : Nat) : Option (List Value × Nat) := adv (fB l) 4 (adv (fT l) 3 (adv (fT l) 2 (adv (fT l) 1 (adv (fI l) 0 (some (zO, a))))))
def enS (l : List UInt8) (a : Nat) : Option (List Value × Nat) := adv (fB l) 10 (adv (fT l) 9 (adv (fI l) 8 (adv (fI l) 7 (adv (fI l) 6 (adv (fB l) 5 (adv (fB l) 4 (adv (fT l) 3 (adv (fT l) 2 (adv (fI l) 1 (adv (fV l) 0 (some (zE, a))))))))))))

theorem opS_eq (l : List UInt8) (a : Nat) : opS l a = (getO l a).map fun x => (cO x.1, x.2) := by
  unfold opS adv getO fI fT fB zO cO
  rcases h0 : getI l a with _ | ⟨x0, p0⟩
  · simp [h0]
  rcases h1 : getT l p0 with _ | ⟨x1, p1⟩
  · simp [h0, h1]
  rcases h2 : getT l p1 with _ | ⟨x2, p2⟩
  · simp [h0, h1, h2]
  rcases h3 : getT l p2 with _ | ⟨x3, p3⟩
  · simp [h0, h1, h2, h3]
  rcases h4 : getB l p3 with _ | ⟨x4, p4⟩
  · simp [h0, h1, h2, h3, h4]
  simp [h0, h1, h2, h3, h4]

theorem enS_eq (l : List UInt8) (a : Nat) : enS l a = (getE l a).map fun x => (cE x.1, x.2) := by
  unfold enS adv getE fV fI fT fB zE cE
  rcases h0 : getV l a with _ | ⟨⟨x0, y0⟩, p0⟩
  · simp [h0]
  rcases h1 : getI l p0 with _ | ⟨x1, p1⟩
  · simp [h0, h1]
  rcases h2 : getT l p1 with _ | ⟨x2, p2⟩
  · simp [h0, h1, h2]
  rcases h3 : getT l p2 with _ | ⟨x3, p3⟩
  · simp [h0, h1, h2, h3]
  rcases h4 : getB l p3 with _ | ⟨x4, p4⟩
  · simp [h0, h1, h2, h3, h4]
  rcases h5 : getB l p4 with _ | ⟨x5, p5⟩
  · simp [h0, h1, h2, h3, h4, h5]
  rcases h6 : getI l p5 with _ | ⟨x6, p6⟩
  · simp [h0, h1, h2, h3, h4, h5, h6]
  rcases h7 : getI l p6 with _ | ⟨x7, p7⟩
  · simp [h0, h1, h2, h3, h4, h5, h6, h7]
  rcases h8 : getI l p7 with _ | ⟨x8, p8⟩
  · simp [h0, h1, h2, h3, h4, h5, h6, h7, h8]
  rcases h9 : getT l p8 with _ | ⟨x9, p9⟩
  · simp [h0, h1, h2, h3, h4, h5, h6, h7, h8, h9]
  rcases h10 : getB l p9 with _ | ⟨x10, p10⟩
  · simp [h0, h1, h2, h3, h4, h5, h6, h7, h8, h9, h10]
  simp [h0, h1, h2, h3, h4, h5, h6, h7, h8, h9, h10]

def vO : Option (OpD × Nat) → Value
  | none => .tuple #[.agg zO.toArray, .int .i64 0, .bool false]
  | some x => .tuple #[.agg (cO x.1).toArray, .int .i64 (x.2 : Nat), .bool true]
def vE : Option (EnD × Nat) → Value
  | none => .tuple #[.agg zE.toArray, .int .i64 0, .bool false]
  | some x => .tuple #[.agg (cE x.1).toArray, .int .i64 (x.2 : Nat), .bool true]

theorem retB {P : Program} {fn : Func} {R : Ending → World → Prop} {a : Act} {w' : World} {v : Value} {b : Nat} {cs : List Value} (hB : Blk w' b cs) (hres : ∀ W, Blk W b cs → (results fn a.tmps).run P W = .ok v W) (hd : a.defers = []) (hR : R (.returned v) w') :
    bodyPost P fn R .ret a w' := bodyPost_ret (hres _ hB) hd hR

def Gave (w : World) (v : Value) (e : Ending) (w' : World) : Prop := e = .returned v ∧ Below w.heap.size w w'

set_option maxRecDepth 100000 in
set_option maxHeartbeats 1000000 in
theorem op_any (bv : Value) (l : List UInt8) (at_ : Nat) (w : World) (hR : Rd w bv l) (ha : at_ ≤ 9223372036854775000) (hl : l.length ≤ 9223372036854000000) :
    Calls Try.prog 32 #[bv, .int .i64 at_] w (Gave w (vO (getO l at_))) := by
  have HR := Lib.hid hR
  have HQ := Lib.hid (opS_eq l at_)
  obtain ⟨a1, c1, rfl, k1, m1, -⟩ := hR
  have r0 := Rst.start HR.out zO 52 86 (.cells zO.toArray 52) at_ ha (w.heap.size + 1) (w.heap.size + 1 + 1) rfl rfl zO.toArray rfl
  have g0 : Below (w.heap.size + 1) (w.alloc (.cells zO.toArray 52)) (((w.alloc (.cells zO.toArray 52)).alloc (.cells zO.toArray 52)).alloc (.cells #[.slice a1 l.length c1, .int .i64 at_, .bool true] 86)) :=
    ((Below.refl _ _).alloc (by simp) _).alloc (by simp) _
  have z0 := Blk.new w zO 52
  have gw : Below w.heap.size w (w.alloc (.cells zO.toArray 52)) := (Below.refl _ _).alloc (Nat.le_refl _) _
  go_enter Try.func32, Try.ntmps32
  go_wp2_with fail
  refine (int_any _ _ _ 0 _ l 5 (some (zO, at_)) _ r0 (by omega) (by omega)).mono ?_
  rintro r w1 ⟨rfl, b1, r1⟩
  have g1 := g0.trans b1
  go_wp2_with fail
  refine (text_any _ _ _ 1 _ l 5 (adv (fI l) 0 (some (zO, at_))) _ r1 (by omega) (by omega)).mono ?_
  rintro r w2 ⟨rfl, b2, r2⟩
  have g2 := g1.trans b2
  go_wp2_with fail
  refine (text_any _ _ _ 2 _ l 5 (adv (fT l) 1 (adv (fI l) 0 (some (zO, at_)))) _ r2 (by omega) (by omega)).mono ?_
  rintro r w3 ⟨rfl, b3, r3⟩
  have g3 := g2.trans b3
  go_wp2_with fail
  refine (text_any _ _ _ 3 _ l 5 (adv (fT l) 2 (adv (fT l) 1 (adv (fI l) 0 (some (zO, at_))))) _ r3 (by omega) (by omega)).mono ?_
  rintro r w4 ⟨rfl, b4, r4⟩
  have g4 := g3.trans b4
  go_wp2_with fail
  refine (bool_any _ _ _ 4 _ l 5 (adv (fT l) 3 (adv (fT l) 2 (adv (fT l) 1 (adv (fI l) 0 (some (zO, at_)))))) _ r4 (by omega) (by omega)).mono ?_
  rintro r w5 ⟨rfl, b5, r5⟩
  have g5 := g4.trans b5
  have z1 := z0.below g5 (Nat.lt_succ_self _)
  have gz := gw.trans (g5.mono (Nat.le_succ _))
  have hfin := HQ.out
  unfold opS at hfin
  rw [hfin] at r5
  clear hfin
  have zc0 := z1.cell (j := 0) rfl
  have zf0 := z1.free 0
  have zc1 := z1.cell (j := 1) rfl
  have zf1 := z1.free 1
  have zc2 := z1.cell (j := 2) rfl
  have zf2 := z1.free 2
  have zc3 := z1.cell (j := 3) rfl
  have zf3 := z1.free 3
  have zc4 := z1.cell (j := 4) rfl
  have zf4 := z1.free 4
  cases hr : getO l at_ with
  | none =>
    rw [hr] at r5
    obtain ⟨_, _, _, _, _, p, es, d1, d2, _⟩ := r5
    have t2 := d1.cell (j := 2) rfl
    have HG := Lib.hid hr
    clear hr
    go_wp2_with fail
    exact retB (v := vO none) (b := w.heap.size) (cs := zO) ((((((z1.set 0 _).set 1 _).set 2 _).set 3 _).set 4 _)) (fun W hW => by
      have y0 := hW.cell (j := 0) rfl
      have y1 := hW.cell (j := 1) rfl
      have y2 := hW.cell (j := 2) rfl
      have y3 := hW.cell (j := 3) rfl
      have y4 := hW.cell (j := 4) rfl
      simp [results, Try.results32, go_sem, y0, y1, y2, y3, y4]
      rfl) rfl ⟨by rw [HG.out], (((((gz.setCell (Nat.le_refl _) _).setCell (Nat.le_refl _) _).setCell (Nat.le_refl _) _).setCell (Nat.le_refl _) _).setCell (Nat.le_refl _) _)⟩
  | some x =>
    obtain ⟨o, p⟩ := x
    rw [hr] at r5
    obtain ⟨_, _, _, _, _, d1, d2, _, hp⟩ := r5
    have t1 := d1.cell (j := 1) rfl
    have t2 := d1.cell (j := 2) rfl
    have ec0 := d2.cell (j := 0) rfl
    have ec1 := d2.cell (j := 1) rfl
    have ec2 := d2.cell (j := 2) rfl
    have ec3 := d2.cell (j := 3) rfl
    have ec4 := d2.cell (j := 4) rfl
    have HG := Lib.hid hr
    clear hr
    go_wp2_with fail
    go_region
    all_goals
      go_wp2_with fail
      exact retB (v := vO (some (o, p))) (b := w.heap.size) (cs := cO o) (Blk.drew ((((((z1.set 0 _).set 1 _).set 2 _).set 3 _).set 4 _))) (fun W hW => by
        have y0 := hW.cell (j := 0) rfl
        have y1 := hW.cell (j := 1) rfl
        have y2 := hW.cell (j := 2) rfl
        have y3 := hW.cell (j := 3) rfl
        have y4 := hW.cell (j := 4) rfl
        simp [results, Try.results32, go_sem, y0, y1, y2, y3, y4]
        rfl) rfl ⟨by rw [HG.out], Below.drew ((((((gz.setCell (Nat.le_refl _) _).setCell (Nat.le_refl _) _).setCell (Nat.le_refl _) _).setCell (Nat.le_refl _) _).setCell (Nat.le_refl _) _))⟩

set_option maxRecDepth 100000 in
set_option maxHeartbeats 1000000 in
theorem ent_any (bv : Value) (l : List UInt8) (at_ : Nat) (w : World) (hR : Rd w bv l) (ha : at_ ≤ 9223372036854775000) (hl : l.length ≤ 9223372036854000000) :
    Calls Try.prog 31 #[bv, .int .i64 at_] w (Gave w (vE (getE l at_))) := by
  have HR := Lib.hid hR
  have HQ := Lib.hid (enS_eq l at_)
  obtain ⟨a1, c1, rfl, k1, m1, -⟩ := hR
  have r0 := Rst.start HR.out zE 48 86 (.cells zE.toArray 48) at_ ha (w.heap.size + 1) (w.heap.size + 1 + 1) rfl rfl zE.toArray rfl
  have g0 : Below (w.heap.size + 1) (w.alloc (.cells zE.toArray 48)) (((w.alloc (.cells zE.toArray 48)).alloc (.cells zE.toArray 48)).alloc (.cells #[.slice a1 l.length c1, .int .i64 at_, .bool true] 86)) :=
    ((Below.refl _ _).alloc (by simp) _).alloc (by simp) _
  have z0 := Blk.new w zE 48
  have gw : Below w.heap.size w (w.alloc (.cells zE.toArray 48)) := (Below.refl _ _).alloc (Nat.le_refl _) _
  have hst : ∀ (x y : Nat) (w : World) (a : Addr) (q : Mode), (store a (.complex .f64 x y) q).run Try.prog w = stored Try.prog w a (.complex .f64 x y) q := fun x y w a q => run_store Try.prog w a _ q rfl
  go_enter Try.func31, Try.ntmps31
  go_wp2_with fail
  refine (ver_any _ _ _ 0 _ l 11 (some (zE, at_)) _ r0 (by omega) (by omega)).mono ?_
  rintro r w1 ⟨rfl, b1, r1⟩
  have g1 := g0.trans b1
  go_wp2_with fail
  refine (int_any _ _ _ 1 _ l 11 (adv (fV l) 0 (some (zE, at_))) _ r1 (by omega) (by omega)).mono ?_
  rintro r w2 ⟨rfl, b2, r2⟩
  have g2 := g1.trans b2
  go_wp2_with fail
  refine (text_any _ _ _ 2 _ l 11 (adv (fI l) 1 (adv (fV l) 0 (some (zE, at_)))) _ r2 (by omega) (by omega)).mono ?_
  rintro r w3 ⟨rfl, b3, r3⟩
  have g3 := g2.trans b3
  go_wp2_with fail
  refine (text_any _ _ _ 3 _ l 11 (adv (fT l) 2 (adv (fI l) 1 (adv (fV l) 0 (some (zE, at_))))) _ r3 (by omega) (by omega)).mono ?_
  rintro r w4 ⟨rfl, b4, r4⟩
  have g4 := g3.trans b4
  go_wp2_with fail
  refine (bool_any _ _ _ 4 _ l 11 (adv (fT l) 3 (adv (fT l) 2 (adv (fI l) 1 (adv (fV l) 0 (some (zE, at_)))))) _ r4 (by omega) (by omega)).mono ?_
  rintro r w5 ⟨rfl, b5, r5⟩
  have g5 := g4.trans b5
  go_wp2_with fail
  refine (bool_any _ _ _ 5 _ l 11 (adv (fB l) 4 (adv (fT l) 3 (adv (fT l) 2 (adv (fI l) 1 (adv (fV l) 0 (some (zE, at_))))))) _ r5 (by omega) (by omega)).mono ?_
  rintro r w6 ⟨rfl, b6, r6⟩
  have g6 := g5.trans b6
  go_wp2_with fail
  refine (int_any _ _ _ 6 _ l 11 (adv (fB l) 5 (adv (fB l) 4 (adv (fT l) 3 (adv (fT l) 2 (adv (fI l) 1 (adv (fV l) 0 (some (zE, at_)))))))) _ r6 (by omega) (by omega)).mono ?_
  rintro r w7 ⟨rfl, b7, r7⟩
  have g7 := g6.trans b7
  go_wp2_with fail
  refine (int_any _ _ _ 7 _ l 11 (adv (fI l) 6 (adv (fB l) 5 (adv (fB l) 4 (adv (fT l) 3 (adv (fT l) 2 (adv (fI l) 1 (adv (fV l) 0 (some (zE, at_))))))))) _ r7 (by omega) (by omega)).mono ?_
  rintro r w8 ⟨rfl, b8, r8⟩
  have g8 := g7.trans b8
  go_wp2_with fail
  refine (int_any _ _ _ 8 _ l 11 (adv (fI l) 7 (adv (fI l) 6 (adv (fB l) 5 (adv (fB l) 4 (adv (fT l) 3 (adv (fT l) 2 (adv (fI l) 1 (adv (fV l) 0 (some (zE, at_)))))))))) _ r8 (by omega) (by omega)).mono ?_
  rintro r w9 ⟨rfl, b9, r9⟩
  have g9 := g8.trans b9
  go_wp2_with fail
  refine (text_any _ _ _ 9 _ l 11 (adv (fI l) 8 (adv (fI l) 7 (adv (fI l) 6 (adv (fB l) 5 (adv (fB l) 4 (adv (fT l) 3 (adv (fT l) 2 (adv (fI l) 1 (adv (fV l) 0 (some (zE, at_))))))))))) _ r9 (by omega) (by omega)).mono ?_
  rintro r w10 ⟨rfl, b10, r10⟩
  have g10 := g9.trans b10
  go_wp2_with fail
  refine (bool_any _ _ _ 10 _ l 11 (adv (fT l) 9 (adv (fI l) 8 (adv (fI l) 7 (adv (fI l) 6 (adv (fB l) 5 (adv (fB l) 4 (adv (fT l) 3 (adv (fT l) 2 (adv (fI l) 1 (adv (fV l) 0 (some (zE, at_)))))))))))) _ r10 (by omega) (by omega)).mono ?_
  rintro r w11 ⟨rfl, b11, r11⟩
  have g11 := g10.trans b11
  have z1 := z0.below g11 (Nat.lt_succ_self _)
  have gz := gw.trans (g11.mono (Nat.le_succ _))
  have hfin := HQ.out
  unfold enS at hfin
  rw [hfin] at r11
  clear hfin
  have zc0 := z1.cell (j := 0) rfl
  have zf0 := z1.free 0
  have zc1 := z1.cell (j := 1) rfl
  have zf1 := z1.free 1
  have zc2 := z1.cell (j := 2) rfl
  have zf2 := z1.free 2
  have zc3 := z1.cell (j := 3) rfl
  have zf3 := z1.free 3
  have zc4 := z1.cell (j := 4) rfl
  have zf4 := z1.free 4
  have zc5 := z1.cell (j := 5) rfl
  have zf5 := z1.free 5
  have zc6 := z1.cell (j := 6) rfl
  have zf6 := z1.free 6
  have zc7 := z1.cell (j := 7) rfl
  have zf7 := z1.free 7
  have zc8 := z1.cell (j := 8) rfl
  have zf8 := z1.free 8
  have zc9 := z1.cell (j := 9) rfl
  have zf9 := z1.free 9
  have zc10 := z1.cell (j := 10) rfl
  have zf10 := z1.free 10
  cases hr : getE l at_ with
  | none =>
    rw [hr] at r11
    obtain ⟨_, _, _, _, _, p, es, d1, d2, _⟩ := r11
    have t2 := d1.cell (j := 2) rfl
    have HG := Lib.hid hr
    clear hr
    go_wp2_with fail
    exact retB (v := vE none) (b := w.heap.size) (cs := zE) ((((((((((((z1.set 0 _).set 1 _).set 2 _).set 3 _).set 4 _).set 5 _).set 6 _).set 7 _).set 8 _).set 9 _).set 10 _)) (fun W hW => by
      have y0 := hW.cell (j := 0) rfl
      have y1 := hW.cell (j := 1) rfl
      have y2 := hW.cell (j := 2) rfl
      have y3 := hW.cell (j := 3) rfl
      have y4 := hW.cell (j := 4) rfl
      have y5 := hW.cell (j := 5) rfl
      have y6 := hW.cell (j := 6) rfl
      have y7 := hW.cell (j := 7) rfl
      have y8 := hW.cell (j := 8) rfl
      have y9 := hW.cell (j := 9) rfl
      have y10 := hW.cell (j := 10) rfl
      simp [results, Try.results31, go_sem, y0, y1, y2, y3, y4, y5, y6, y7, y8, y9, y10]
      rfl) rfl ⟨by rw [HG.out], (((((((((((gz.setCell (Nat.le_refl _) _).setCell (Nat.le_refl _) _).setCell (Nat.le_refl _) _).setCell (Nat.le_refl _) _).setCell (Nat.le_refl _) _).setCell (Nat.le_refl _) _).setCell (Nat.le_refl _) _).setCell (Nat.le_refl _) _).setCell (Nat.le_refl _) _).setCell (Nat.le_refl _) _).setCell (Nat.le_refl _) _)⟩
  | some x =>
    obtain ⟨o, p⟩ := x
    rw [hr] at r11
    obtain ⟨_, _, _, _, _, d1, d2, _, hp⟩ := r11
    have t1 := d1.cell (j := 1) rfl
    have t2 := d1.cell (j := 2) rfl
    have ec0 := d2.cell (j := 0) rfl
    have ec1 := d2.cell (j := 1) rfl
    have ec2 := d2.cell (j := 2) rfl
    have ec3 := d2.cell (j := 3) rfl
    have ec4 := d2.cell (j := 4) rfl
    have ec5 := d2.cell (j := 5) rfl
    have ec6 := d2.cell (j := 6) rfl
    have ec7 := d2.cell (j := 7) rfl
    have ec8 := d2.cell (j := 8) rfl
    have ec9 := d2.cell (j := 9) rfl
    have ec10 := d2.cell (j := 10) rfl
    have HG := Lib.hid hr
    clear hr
    go_wp2_with fail
    go_region
    all_goals
      go_wp2_with fail
      exact retB (v := vE (some (o, p))) (b := w.heap.size) (cs := cE o) (Blk.drew ((((((((((((z1.set 0 _).set 1 _).set 2 _).set 3 _).set 4 _).set 5 _).set 6 _).set 7 _).set 8 _).set 9 _).set 10 _))) (fun W hW => by
        have y0 := hW.cell (j := 0) rfl
        have y1 := hW.cell (j := 1) rfl
        have y2 := hW.cell (j := 2) rfl
        have y3 := hW.cell (j := 3) rfl
        have y4 := hW.cell (j := 4) rfl
        have y5 := hW.cell (j := 5) rfl
        have y6 := hW.cell (j := 6) rfl
        have y7 := hW.cell (j := 7) rfl
        have y8 := hW.cell (j := 8) rfl
        have y9 := hW.cell (j := 9) rfl
        have y10 := hW.cell (j := 10) rfl
        simp [results, Try.results31, go_sem, y0, y1, y2, y3, y4, y5, y6, y7, y8, y9, y10]
        rfl) rfl ⟨by rw [HG.out], Below.drew ((((((((((((gz.setCell (Nat.le_refl _) _).setCell (Nat.le_refl _) _).setCell (Nat.le_refl _) _).setCell (Nat.le_refl _) _).setCell (Nat.le_refl _) _).setCell (Nat.le_refl _) _).setCell (Nat.le_refl _) _).setCell (Nat.le_refl _) _).setCell (Nat.le_refl _) _).setCell (Nat.le_refl _) _).setCell (Nat.le_refl _) _))⟩

end Go.Proofs.Ytolgbnpginifkaa.entget
