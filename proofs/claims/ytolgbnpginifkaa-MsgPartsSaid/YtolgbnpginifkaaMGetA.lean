/- The contracts of msg.getMember and getSeen. -/
import Derived.Test.YtolgbnpginifkaaMDone
namespace Go.Proofs.Ytolgbnpginifkaa.mget
open Go.ChangeShapes Go.WideShapes Go.ChangeAt Go.RowKit codec st own get blk rep ent msgd entget minto
open into (adv fI fT fB fV)
set_option linter.unusedVariables false

open mdone
def zMem : List Value := [.int .i64 0, .int .i64 0]
theorem endMem (l : List UInt8) (at_ : Nat) (w : World) (lo : Nat) :
    match adv (fI l) 1 (adv (fI l) 0 (some (zMem, at_))) with
    | none => getMem l at_ = none
    | some s => ∃ x, getMem l at_ = some (x, s.2) ∧ s.1 = [.int .i64 x.node, .int .i64 x.boot] := by
  simp only [adv, fI] at *
  rcases h0 : getI l at_ with _ | ⟨x0, p0⟩
  · simp [getMem, h0]
  rcases h1 : getI l p0 with _ | ⟨x1, p1⟩
  · simp [getMem, h0, h1]
  simp only [Option.bind_some, Option.map_some, h0, h1]
  exact ⟨⟨x0, x1⟩, by simp [getMem, h0, h1], by simp [zMem]⟩

set_option maxRecDepth 100000 in
set_option maxHeartbeats 4000000 in
theorem getMem_any (bv : Value) (l : List UInt8) (at_ : Nat) (w : World) (hR : Rd w bv l) (ha : at_ ≤ 9223372036854775000) (hl : l.length ≤ 9223372036854000000) :
    Calls Try.prog 67 #[bv, .int .i64 at_] w (Got rMem packA (packA zMem) (getMem l at_) w) := by
  have HR := Lib.hid hR
  obtain ⟨a1, c1, rfl, k1, m1, -⟩ := hR
  have r0 := Rst.start HR.out zMem 119 101 (.cells zMem.toArray 119) at_ ha (w.heap.size + 1) (w.heap.size + 1 + 1) rfl rfl zMem.toArray rfl [1, 1] rfl
  have g0 : Below (w.heap.size + 1) (w.alloc (.cells zMem.toArray 119)) (((w.alloc (.cells zMem.toArray 119)).alloc (.cells zMem.toArray 119)).alloc (.cells #[.slice a1 l.length c1, .int .i64 at_, .bool true] 101)) :=
    ((Below.refl _ _).alloc (by simp) _).alloc (by simp) _
  have z0 := Blk.new w zMem 119
  have gw : Below w.heap.size w (w.alloc (.cells zMem.toArray 119)) := (Below.refl _ _).alloc (Nat.le_refl _) _
  have s0 : w.heap.size + 1 + 1 + 1 ≤ (((w.alloc (.cells zMem.toArray 119)).alloc (.cells zMem.toArray 119)).alloc (.cells #[.slice a1 l.length c1, .int .i64 at_, .bool true] 101)).heap.size := by simp
  go_enter Try.func67, Try.ntmps67
  go_wp2_with fail
  refine (minto.int_any (w.heap.size + 1) (w.heap.size + 1 + 1 + 1) _ _ 0 _ l _ _ _ r0 ⟨by omega, by omega⟩ rfl hl).mono ?_
  rintro r w1 ⟨rfl, b1, k1, r1⟩
  have g1 := g0.trans b1
  have s1 := Nat.le_trans s0 b1.size
  go_wp2_with fail
  refine (minto.int_any (w.heap.size + 1) (w.heap.size + 1 + 1 + 1) _ _ 1 _ l _ _ _ r1 ⟨by omega, by omega⟩ rfl hl).mono ?_
  rintro r w2 ⟨rfl, b2, k2, r2⟩
  have g2 := g1.trans b2
  have s2 := Nat.le_trans s1 b2.size
  obtain ⟨p, ok, es, bk1, bk2, hes, hp, hE⟩ := r2.fin
  have hend := endMem l at_ w2 (w.heap.size + 1 + 1 + 1)
  have HE := Lib.hid hE
  clear hE
  obtain ⟨c0, c1, rfl⟩ := invMem hes
  have z1 := z0.below g2 (Nat.lt_succ_self _)
  have gz := gw.trans (g2.mono (Nat.le_succ _))
  have ec0 := bk2.cell (j := 0) rfl
  have ec1 := bk2.cell (j := 1) rfl
  go_wp2_with fail
  refine (doneMem_any _ _ p ok c0 c1 w2 bk1).mono ?_
  rintro r w9 ⟨rfl, b9⟩
  have z9 := z1.below b9 (by have := z1.lt; omega)
  have g9 := gz.trans (b9.mono (by have := z1.lt; omega))
  have zc0 := z9.cell (j := 0) rfl
  have zf0 := z9.free 0
  have zc1 := z9.cell (j := 1) rfl
  have zf1 := z9.free 1
  cases ok
  · have hend' : getMem l at_ = none := by rw [HE.out] at hend; exact hend
    simp only [Bool.false_eq_true, if_false]
    go_wp2_with fail
    exact entget.retB (v := .tuple #[packA zMem, .int .i64 0, .bool false]) (b := w.heap.size) (cs := zMem) (((z9.set 0 _).set 1 _)) (fun W hW => by
      have y0 := hW.cell (j := 0) rfl
      have y1 := hW.cell (j := 1) rfl
      simp [results, Try.results67, go_sem, y0, y1]
      try rfl) rfl ⟨((g9.setCell (Nat.le_refl _) _).setCell (Nat.le_refl _) _), by rw [hend']⟩
  · obtain ⟨x, hx, hxs⟩ : ∃ x, getMem l at_ = some (x, p) ∧ ([.int .i64 c0, .int .i64 c1] : List Value) = [.int .i64 x.node, .int .i64 x.boot] := by rw [HE.out] at hend; exact hend
    have HX := Lib.hid hx
    have HXS := Lib.hid hxs
    clear hx hxs
    have ne0 : ¬ w.heap.size + 1 + 1 + 1 ≤ w.heap.size := by omega
    simp only [if_true]
    go_wp2_with fail
    exact entget.retB (v := .tuple #[packA [.int .i64 c0, .int .i64 c1], .int .i64 p, .bool true]) (b := w.heap.size) (cs := [.int .i64 c0, .int .i64 c1]) (((z9.set 0 _).set 1 _)) (fun W hW => by
      have y0 := hW.cell (j := 0) rfl
      have y1 := hW.cell (j := 1) rfl
      simp [results, Try.results67, go_sem, y0, y1]
      try rfl) rfl ⟨((g9.setCell (Nat.le_refl _) _).setCell (Nat.le_refl _) _), by rw [HX.out]; exact ⟨_, HXS.out, rfl⟩⟩

def zSn : List Value := [.int .i64 0, .int .i64 0, .complex .f64 0 0, .int .i64 0, .int .i64 0, .string ⟨#[]⟩, .bool false]
theorem endSn (l : List UInt8) (at_ : Nat) (w : World) (lo : Nat) :
    match adv (fB l) 6 (adv (fT l) 5 (adv (fI l) 4 (adv (fI l) 3 (adv (fV l) 2 (adv (fI l) 1 (adv (fI l) 0 (some (zSn, at_)))))))) with
    | none => getSn l at_ = none
    | some s => ∃ x, getSn l at_ = some (x, s.2) ∧ s.1 = [.int .i64 x.sess, .int .i64 x.num, .complex .f64 (flt.F x.ver.1) (flt.F x.ver.2), .int .i64 x.kind, .int .i64 x.code, .string ⟨x.res.toArray⟩, .bool x.has] := by
  simp only [adv, fI, fT, fB, fV] at *
  rcases h0 : getI l at_ with _ | ⟨x0, p0⟩
  · simp [getSn, h0]
  rcases h1 : getI l p0 with _ | ⟨x1, p1⟩
  · simp [getSn, h0, h1]
  rcases h2 : getV l p1 with _ | ⟨⟨x2, y2⟩, p2⟩
  · simp [getSn, h0, h1, h2]
  rcases h3 : getI l p2 with _ | ⟨x3, p3⟩
  · simp [getSn, h0, h1, h2, h3]
  rcases h4 : getI l p3 with _ | ⟨x4, p4⟩
  · simp [getSn, h0, h1, h2, h3, h4]
  rcases h5 : getT l p4 with _ | ⟨x5, p5⟩
  · simp [getSn, h0, h1, h2, h3, h4, h5]
  rcases h6 : getB l p5 with _ | ⟨x6, p6⟩
  · simp [getSn, h0, h1, h2, h3, h4, h5, h6]
  simp only [Option.bind_some, Option.map_some, h0, h1, h2, h3, h4, h5, h6]
  exact ⟨⟨x0, x1, ⟨x2, y2⟩, x3, x4, x5, x6⟩, by simp [getSn, h0, h1, h2, h3, h4, h5, h6], by simp [zSn]⟩

set_option maxRecDepth 100000 in
set_option maxHeartbeats 4000000 in
theorem getSn_any (bv : Value) (l : List UInt8) (at_ : Nat) (w : World) (hR : Rd w bv l) (ha : at_ ≤ 9223372036854775000) (hl : l.length ≤ 9223372036854000000) :
    Calls Try.prog 78 #[bv, .int .i64 at_] w (Got rSn packA (packA zSn) (getSn l at_) w) := by
  have HR := Lib.hid hR
  obtain ⟨a1, c1, rfl, k1, m1, -⟩ := hR
  have r0 := Rst.start HR.out zSn 139 101 (.cells zSn.toArray 139) at_ ha (w.heap.size + 1) (w.heap.size + 1 + 1) rfl rfl zSn.toArray rfl [1, 1, 4, 1, 1, 2, 3] rfl
  have g0 : Below (w.heap.size + 1) (w.alloc (.cells zSn.toArray 139)) (((w.alloc (.cells zSn.toArray 139)).alloc (.cells zSn.toArray 139)).alloc (.cells #[.slice a1 l.length c1, .int .i64 at_, .bool true] 101)) :=
    ((Below.refl _ _).alloc (by simp) _).alloc (by simp) _
  have z0 := Blk.new w zSn 139
  have gw : Below w.heap.size w (w.alloc (.cells zSn.toArray 139)) := (Below.refl _ _).alloc (Nat.le_refl _) _
  have s0 : w.heap.size + 1 + 1 + 1 ≤ (((w.alloc (.cells zSn.toArray 139)).alloc (.cells zSn.toArray 139)).alloc (.cells #[.slice a1 l.length c1, .int .i64 at_, .bool true] 101)).heap.size := by simp
  have hst : ∀ (x y : Nat) (w : World) (a : Addr) (q : Mode), (store a (.complex .f64 x y) q).run Try.prog w = stored Try.prog w a (.complex .f64 x y) q := fun x y w a q => run_store Try.prog w a _ q rfl
  go_enter Try.func78, Try.ntmps78
  go_wp2_with fail
  refine (minto.int_any (w.heap.size + 1) (w.heap.size + 1 + 1 + 1) _ _ 0 _ l _ _ _ r0 ⟨by omega, by omega⟩ rfl hl).mono ?_
  rintro r w1 ⟨rfl, b1, k1, r1⟩
  have g1 := g0.trans b1
  have s1 := Nat.le_trans s0 b1.size
  go_wp2_with fail
  refine (minto.int_any (w.heap.size + 1) (w.heap.size + 1 + 1 + 1) _ _ 1 _ l _ _ _ r1 ⟨by omega, by omega⟩ rfl hl).mono ?_
  rintro r w2 ⟨rfl, b2, k2, r2⟩
  have g2 := g1.trans b2
  have s2 := Nat.le_trans s1 b2.size
  go_wp2_with fail
  refine (minto.ver_any (w.heap.size + 1) (w.heap.size + 1 + 1 + 1) _ _ 2 _ l _ _ _ r2 ⟨by omega, by omega⟩ rfl hl).mono ?_
  rintro r w3 ⟨rfl, b3, k3, r3⟩
  have g3 := g2.trans b3
  have s3 := Nat.le_trans s2 b3.size
  go_wp2_with fail
  refine (minto.int_any (w.heap.size + 1) (w.heap.size + 1 + 1 + 1) _ _ 3 _ l _ _ _ r3 ⟨by omega, by omega⟩ rfl hl).mono ?_
  rintro r w4 ⟨rfl, b4, k4, r4⟩
  have g4 := g3.trans b4
  have s4 := Nat.le_trans s3 b4.size
  go_wp2_with fail
  refine (minto.int_any (w.heap.size + 1) (w.heap.size + 1 + 1 + 1) _ _ 4 _ l _ _ _ r4 ⟨by omega, by omega⟩ rfl hl).mono ?_
  rintro r w5 ⟨rfl, b5, k5, r5⟩
  have g5 := g4.trans b5
  have s5 := Nat.le_trans s4 b5.size
  go_wp2_with fail
  refine (minto.text_any (w.heap.size + 1) (w.heap.size + 1 + 1 + 1) _ _ 5 _ l _ _ _ r5 ⟨by omega, by omega⟩ rfl hl).mono ?_
  rintro r w6 ⟨rfl, b6, k6, r6⟩
  have g6 := g5.trans b6
  have s6 := Nat.le_trans s5 b6.size
  go_wp2_with fail
  refine (minto.bool_any (w.heap.size + 1) (w.heap.size + 1 + 1 + 1) _ _ 6 _ l _ _ _ r6 ⟨by omega, by omega⟩ rfl hl).mono ?_
  rintro r w7 ⟨rfl, b7, k7, r7⟩
  have g7 := g6.trans b7
  have s7 := Nat.le_trans s6 b7.size
  obtain ⟨p, ok, es, bk1, bk2, hes, hp, hE⟩ := r7.fin
  have hend := endSn l at_ w7 (w.heap.size + 1 + 1 + 1)
  have HE := Lib.hid hE
  clear hE
  obtain ⟨c0, c1, c2, d2, c3, c4, c5, c6, rfl⟩ := invSn hes
  have z1 := z0.below g7 (Nat.lt_succ_self _)
  have gz := gw.trans (g7.mono (Nat.le_succ _))
  have ec0 := bk2.cell (j := 0) rfl
  have ec1 := bk2.cell (j := 1) rfl
  have ec2 := bk2.cell (j := 2) rfl
  have ec3 := bk2.cell (j := 3) rfl
  have ec4 := bk2.cell (j := 4) rfl
  have ec5 := bk2.cell (j := 5) rfl
  have ec6 := bk2.cell (j := 6) rfl
  go_wp2_with fail
  refine (doneSn_any _ _ p ok c0 c1 c2 d2 c3 c4 c5 c6 w7 bk1).mono ?_
  rintro r w9 ⟨rfl, b9⟩
  have z9 := z1.below b9 (by have := z1.lt; omega)
  have g9 := gz.trans (b9.mono (by have := z1.lt; omega))
  have zc0 := z9.cell (j := 0) rfl
  have zf0 := z9.free 0
  have zc1 := z9.cell (j := 1) rfl
  have zf1 := z9.free 1
  have zc2 := z9.cell (j := 2) rfl
  have zf2 := z9.free 2
  have zc3 := z9.cell (j := 3) rfl
  have zf3 := z9.free 3
  have zc4 := z9.cell (j := 4) rfl
  have zf4 := z9.free 4
  have zc5 := z9.cell (j := 5) rfl
  have zf5 := z9.free 5
  have zc6 := z9.cell (j := 6) rfl
  have zf6 := z9.free 6
  cases ok
  · have hend' : getSn l at_ = none := by rw [HE.out] at hend; exact hend
    simp only [Bool.false_eq_true, if_false]
    go_wp2_with fail
    exact entget.retB (v := .tuple #[packA zSn, .int .i64 0, .bool false]) (b := w.heap.size) (cs := zSn) ((((((((z9.set 0 _).set 1 _).set 2 _).set 3 _).set 4 _).set 5 _).set 6 _)) (fun W hW => by
      have y0 := hW.cell (j := 0) rfl
      have y1 := hW.cell (j := 1) rfl
      have y2 := hW.cell (j := 2) rfl
      have y3 := hW.cell (j := 3) rfl
      have y4 := hW.cell (j := 4) rfl
      have y5 := hW.cell (j := 5) rfl
      have y6 := hW.cell (j := 6) rfl
      simp [results, Try.results78, go_sem, y0, y1, y2, y3, y4, y5, y6]
      try rfl) rfl ⟨(((((((g9.setCell (Nat.le_refl _) _).setCell (Nat.le_refl _) _).setCell (Nat.le_refl _) _).setCell (Nat.le_refl _) _).setCell (Nat.le_refl _) _).setCell (Nat.le_refl _) _).setCell (Nat.le_refl _) _), by rw [hend']⟩
  · obtain ⟨x, hx, hxs⟩ : ∃ x, getSn l at_ = some (x, p) ∧ ([.int .i64 c0, .int .i64 c1, .complex .f64 c2 d2, .int .i64 c3, .int .i64 c4, .string c5, .bool c6] : List Value) = [.int .i64 x.sess, .int .i64 x.num, .complex .f64 (flt.F x.ver.1) (flt.F x.ver.2), .int .i64 x.kind, .int .i64 x.code, .string ⟨x.res.toArray⟩, .bool x.has] := by rw [HE.out] at hend; exact hend
    have HX := Lib.hid hx
    have HXS := Lib.hid hxs
    clear hx hxs
    have ne0 : ¬ w.heap.size + 1 + 1 + 1 ≤ w.heap.size := by omega
    simp only [if_true]
    go_wp2_with fail
    exact entget.retB (v := .tuple #[packA [.int .i64 c0, .int .i64 c1, .complex .f64 c2 d2, .int .i64 c3, .int .i64 c4, .string c5, .bool c6], .int .i64 p, .bool true]) (b := w.heap.size) (cs := [.int .i64 c0, .int .i64 c1, .complex .f64 c2 d2, .int .i64 c3, .int .i64 c4, .string c5, .bool c6]) ((((((((z9.set 0 _).set 1 _).set 2 _).set 3 _).set 4 _).set 5 _).set 6 _)) (fun W hW => by
      have y0 := hW.cell (j := 0) rfl
      have y1 := hW.cell (j := 1) rfl
      have y2 := hW.cell (j := 2) rfl
      have y3 := hW.cell (j := 3) rfl
      have y4 := hW.cell (j := 4) rfl
      have y5 := hW.cell (j := 5) rfl
      have y6 := hW.cell (j := 6) rfl
      simp [results, Try.results78, go_sem, y0, y1, y2, y3, y4, y5, y6]
      try rfl) rfl ⟨(((((((g9.setCell (Nat.le_refl _) _).setCell (Nat.le_refl _) _).setCell (Nat.le_refl _) _).setCell (Nat.le_refl _) _).setCell (Nat.le_refl _) _).setCell (Nat.le_refl _) _).setCell (Nat.le_refl _) _), by rw [HX.out]; exact ⟨_, HXS.out, rfl⟩⟩

end Go.Proofs.Ytolgbnpginifkaa.mget
