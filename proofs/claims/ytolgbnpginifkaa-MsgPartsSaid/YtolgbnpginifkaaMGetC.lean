/- The contract of msg.GetImage. -/
import Derived.Test.YtolgbnpginifkaaMListA
import Derived.Test.YtolgbnpginifkaaMIntoL
namespace Go.Proofs.Ytolgbnpginifkaa.mget
open Go.ChangeShapes Go.WideShapes Go.ChangeAt Go.RowKit codec st own get blk rep ent msgd entget minto
open into (adv fI fT fB fV)
set_option linter.unusedVariables false

open mdone mlist
def zIm : List Value := [.complex .f64 0 0, .complex .f64 0 0, .int .i64 0, .slice none 0 0, .slice none 0 0]
theorem endIm (l : List UInt8) (at_ : Nat) (u3 u4 : Value) (w : World) (lo : Nat) (hr3 : RepIf (list rE) (getL getE l) [u3] (adv (fI l) 2 (adv (fV l) 1 (adv (fV l) 0 (some (zIm, at_))))) lo w) (hr4 : RepIf (list rSn) (getL getSn l) [u4] (advS (getL getE l) 3 [u3] (adv (fI l) 2 (adv (fV l) 1 (adv (fV l) 0 (some (zIm, at_)))))) lo w) :
    match advS (getL getSn l) 4 [u4] (advS (getL getE l) 3 [u3] (adv (fI l) 2 (adv (fV l) 1 (adv (fV l) 0 (some (zIm, at_)))))) with
    | none => getIm l at_ = none
    | some s => ∃ x, getIm l at_ = some (x, s.2) ∧ s.1 = [.complex .f64 (flt.F x.floor.1) (flt.F x.floor.2), .complex .f64 (flt.F x.last.1) (flt.F x.last.2), .int .i64 x.gen, u3, u4] ∧ (list rE).rep w (fun b => lo ≤ b) x.log [u3] ∧ (list rSn).rep w (fun b => lo ≤ b) x.seen [u4] := by
  simp only [adv, advS, setAt, fI, fV] at *
  rcases h0 : getV l at_ with _ | ⟨⟨x0, y0⟩, p0⟩
  · simp [getIm, h0]
  rcases h1 : getV l p0 with _ | ⟨⟨x1, y1⟩, p1⟩
  · simp [getIm, h0, h1]
  rcases h2 : getI l p1 with _ | ⟨x2, p2⟩
  · simp [getIm, h0, h1, h2]
  rcases h3 : getL getE l p2 with _ | ⟨x3, p3⟩
  · simp [getIm, h0, h1, h2, h3]
  rcases h4 : getL getSn l p3 with _ | ⟨x4, p4⟩
  · simp [getIm, h0, h1, h2, h3, h4]
  simp only [Option.bind_some, Option.map_some, h0, h1, h2, h3, h4]
  refine ⟨⟨⟨x0, y0⟩, ⟨x1, y1⟩, x2, x3, x4⟩, by simp [getIm, h0, h1, h2, h3, h4], by simp [zIm], ?_, ?_⟩
  · exact hr3 [.complex .f64 (flt.F x0) (flt.F y0), .complex .f64 (flt.F x1) (flt.F y1), .int .i64 x2, .slice none 0 0, .slice none 0 0] p2 x3 p3 (by simp [zIm, h0, h1, h2]) h3
  · exact hr4 [.complex .f64 (flt.F x0) (flt.F y0), .complex .f64 (flt.F x1) (flt.F y1), .int .i64 x2, u3, .slice none 0 0] p3 x4 p4 (by simp [zIm, h0, h1, h2, h3]) h4

set_option maxRecDepth 100000 in
set_option maxHeartbeats 4000000 in
theorem getIm_any (bv : Value) (l : List UInt8) (at_ : Nat) (w : World) (hR : Rd w bv l) (ha : at_ ≤ 9223372036854775000) (hl : l.length ≤ 9223372036854000000) :
    Calls Try.prog 39 #[bv, .int .i64 at_] w (Got rIm packA (packA zIm) (getIm l at_) w) := by
  have HR := Lib.hid hR
  obtain ⟨a1, c1, rfl, k1, m1, -⟩ := hR
  have r0 := Rst.start HR.out zIm 62 101 (.cells zIm.toArray 62) at_ ha (w.heap.size + 1) (w.heap.size + 1 + 1) rfl rfl zIm.toArray rfl [4, 4, 1, 5, 5] rfl
  have g0 : Below (w.heap.size + 1) (w.alloc (.cells zIm.toArray 62)) (((w.alloc (.cells zIm.toArray 62)).alloc (.cells zIm.toArray 62)).alloc (.cells #[.slice a1 l.length c1, .int .i64 at_, .bool true] 101)) :=
    ((Below.refl _ _).alloc (by simp) _).alloc (by simp) _
  have z0 := Blk.new w zIm 62
  have gw : Below w.heap.size w (w.alloc (.cells zIm.toArray 62)) := (Below.refl _ _).alloc (Nat.le_refl _) _
  have s0 : w.heap.size + 1 + 1 + 1 ≤ (((w.alloc (.cells zIm.toArray 62)).alloc (.cells zIm.toArray 62)).alloc (.cells #[.slice a1 l.length c1, .int .i64 at_, .bool true] 101)).heap.size := by simp
  have hst : ∀ (x y : Nat) (w : World) (a : Addr) (q : Mode), (store a (.complex .f64 x y) q).run Try.prog w = stored Try.prog w a (.complex .f64 x y) q := fun x y w a q => run_store Try.prog w a _ q rfl
  go_enter Try.func39, Try.ntmps39
  go_wp2_with fail
  refine (minto.ver_any (w.heap.size + 1) (w.heap.size + 1 + 1 + 1) _ _ 0 _ l _ _ _ r0 ⟨by omega, by omega⟩ rfl hl).mono ?_
  rintro r w1 ⟨rfl, b1, k1, r1⟩
  have g1 := g0.trans b1
  have s1 := Nat.le_trans s0 b1.size
  go_wp2_with fail
  refine (minto.ver_any (w.heap.size + 1) (w.heap.size + 1 + 1 + 1) _ _ 1 _ l _ _ _ r1 ⟨by omega, by omega⟩ rfl hl).mono ?_
  rintro r w2 ⟨rfl, b2, k2, r2⟩
  have g2 := g1.trans b2
  have s2 := Nat.le_trans s1 b2.size
  go_wp2_with fail
  refine (minto.int_any (w.heap.size + 1) (w.heap.size + 1 + 1 + 1) _ _ 2 _ l _ _ _ r2 ⟨by omega, by omega⟩ rfl hl).mono ?_
  rintro r w3 ⟨rfl, b3, k3, r3⟩
  have g3 := g2.trans b3
  have s3 := Nat.le_trans s2 b3.size
  go_wp2_with fail
  refine (lofE_any _).mono ?_
  rintro r x3 ⟨rfl, rfl⟩
  have al3 := (Below.refl w3.heap.size w3).alloc (Nat.le_refl _) (.cells #[.func (.func 31) #[] #[]] 50)
  have rr3 := r3.quiet al3
  have kf3 := Blk.new w3 [.func (.func 31) #[] #[]] 50
  go_wp2_with fail
  refine (minto.ents_any (w.heap.size + 1) (w.heap.size + 1 + 1 + 1) _ _ 3 w3.heap.size _ l _ _ _ rr3 ⟨by omega, by omega⟩ (Nat.le_trans s3 al3.size) rfl hl (fun p w1 hb hr hp => mlist.lst_ent _ l p _ w1 hr hp hl ((kf3.below hb kf3.lt).cell rfl))).mono ?_
  rintro r w4 ⟨cs3, q3, hcs3, rfl, b4, k4, r4⟩
  obtain ⟨u3, rfl⟩ : ∃ u, cs3 = [u] := List.length_eq_one_iff.1 hcs3
  have g4 := (g3.trans (al3.mono (by omega))).trans b4
  have s4 := Nat.le_trans (Nat.le_trans s3 al3.size) b4.size
  go_wp2_with fail
  refine (lofSn_any _).mono ?_
  rintro r x4 ⟨rfl, rfl⟩
  have al4 := (Below.refl w4.heap.size w4).alloc (Nat.le_refl _) (.cells #[.func (.func 78) #[] #[]] 140)
  have rr4 := r4.quiet al4
  have kf4 := Blk.new w4 [.func (.func 78) #[] #[]] 140
  go_wp2_with fail
  refine (minto.sns_any (w.heap.size + 1) (w.heap.size + 1 + 1 + 1) _ _ 4 w4.heap.size _ l _ _ _ rr4 ⟨by omega, by omega⟩ (Nat.le_trans s4 al4.size) rfl hl (fun p w1 hb hr hp => mlist.lst_sn _ l p _ w1 hr hp hl ((kf4.below hb kf4.lt).cell rfl))).mono ?_
  rintro r w5 ⟨cs4, q4, hcs4, rfl, b5, k5, r5⟩
  obtain ⟨u4, rfl⟩ : ∃ u, cs4 = [u] := List.length_eq_one_iff.1 hcs4
  have g5 := (g4.trans (al4.mono (by omega))).trans b5
  have s5 := Nat.le_trans (Nat.le_trans s4 al4.size) b5.size
  have q3 := q3.keep (Kept.ofBelow al4)
  have q3 := q3.keep k5
  obtain ⟨p, ok, es, bk1, bk2, hes, hp, hE⟩ := r5.fin
  have hend := endIm l at_ u3 u4 w5 (w.heap.size + 1 + 1 + 1) q3 q4
  have HE := Lib.hid hE
  clear hE
  obtain ⟨c0, d0, c1, d1, c2, c3, d3, e3, c4, d4, e4, rfl⟩ := invIm hes
  have z1 := z0.below g5 (Nat.lt_succ_self _)
  have gz := gw.trans (g5.mono (Nat.le_succ _))
  have ec0 := bk2.cell (j := 0) rfl
  have ec1 := bk2.cell (j := 1) rfl
  have ec2 := bk2.cell (j := 2) rfl
  have ec3 := bk2.cell (j := 3) rfl
  have ec4 := bk2.cell (j := 4) rfl
  go_wp2_with fail
  refine (doneIm_any _ _ p ok c0 d0 c1 d1 c2 c3 d3 e3 c4 d4 e4 w5 bk1).mono ?_
  rintro r w9 ⟨rfl, b9⟩
  have z9 := z1.below b9 (by have := z1.lt; omega)
  have g9 := gz.trans (b9.mono (by have := z1.lt; omega))
  have zc0 := z9.cell (j := 0) rfl
  have zf0 := z9.free 0
  have zc1 := z9.cell (j := 1) rfl
  have zf1 := z9.free 1
  have zc2 := z9.cell (j := 2) rfl
  have zf2 := z9.free 2
  have zc3 := z9.cell (j := 3) rfl
  have zf3 := z9.free 3
  have zc4 := z9.cell (j := 4) rfl
  have zf4 := z9.free 4
  cases ok
  · have hend' : getIm l at_ = none := by rw [HE.out] at hend; exact hend
    simp only [Bool.false_eq_true, if_false]
    go_wp2_with fail
    exact entget.retB (v := .tuple #[packA zIm, .int .i64 0, .bool false]) (b := w.heap.size) (cs := zIm) ((((((z9.set 0 _).set 1 _).set 2 _).set 3 _).set 4 _)) (fun W hW => by
      have y0 := hW.cell (j := 0) rfl
      have y1 := hW.cell (j := 1) rfl
      have y2 := hW.cell (j := 2) rfl
      have y3 := hW.cell (j := 3) rfl
      have y4 := hW.cell (j := 4) rfl
      simp [results, Try.results39, go_sem, y0, y1, y2, y3, y4]
      try rfl) rfl ⟨(((((g9.setCell (Nat.le_refl _) _).setCell (Nat.le_refl _) _).setCell (Nat.le_refl _) _).setCell (Nat.le_refl _) _).setCell (Nat.le_refl _) _), by rw [hend']⟩
  · obtain ⟨x, hx, hxs, rp3, rp4⟩ : ∃ x, getIm l at_ = some (x, p) ∧ ([.complex .f64 c0 d0, .complex .f64 c1 d1, .int .i64 c2, .slice c3 d3 e3, .slice c4 d4 e4] : List Value) = [.complex .f64 (flt.F x.floor.1) (flt.F x.floor.2), .complex .f64 (flt.F x.last.1) (flt.F x.last.2), .int .i64 x.gen, u3, u4] ∧ (list rE).rep w5 (fun b => w.heap.size + 1 + 1 + 1 ≤ b) x.log [u3] ∧ (list rSn).rep w5 (fun b => w.heap.size + 1 + 1 + 1 ≤ b) x.seen [u4] := by rw [HE.out] at hend; exact hend
    have HX := Lib.hid hx
    have HXS := Lib.hid hxs
    clear hx hxs
    have RP3 := Lib.hid rp3
    have RP4 := Lib.hid rp4
    clear rp3 rp4
    have ne0 : ¬ w.heap.size + 1 + 1 + 1 ≤ w.heap.size := by omega
    simp only [if_true]
    go_wp2_with fail
    exact entget.retB (v := .tuple #[packA [.complex .f64 c0 d0, .complex .f64 c1 d1, .int .i64 c2, .slice c3 d3 e3, .slice c4 d4 e4], .int .i64 p, .bool true]) (b := w.heap.size) (cs := [.complex .f64 c0 d0, .complex .f64 c1 d1, .int .i64 c2, .slice c3 d3 e3, .slice c4 d4 e4]) ((((((z9.set 0 _).set 1 _).set 2 _).set 3 _).set 4 _)) (fun W hW => by
      have y0 := hW.cell (j := 0) rfl
      have y1 := hW.cell (j := 1) rfl
      have y2 := hW.cell (j := 2) rfl
      have y3 := hW.cell (j := 3) rfl
      have y4 := hW.cell (j := 4) rfl
      simp [results, Try.results39, go_sem, y0, y1, y2, y3, y4]
      try rfl) rfl ⟨(((((g9.setCell (Nat.le_refl _) _).setCell (Nat.le_refl _) _).setCell (Nat.le_refl _) _).setCell (Nat.le_refl _) _).setCell (Nat.le_refl _) _), by rw [HX.out]; exact ⟨_, ⟨u3, u4, HXS.out, (list rE).mono (fun b hS _ => by have hS : w.heap.size + 1 + 1 + 1 ≤ b := hS; omega) ((list rE).keep ((((((Kept.ofBelow b9).setCell _ _ ne0).setCell _ _ ne0).setCell _ _ ne0).setCell _ _ ne0).setCell _ _ ne0) RP3.out), (list rSn).mono (fun b hS _ => by have hS : w.heap.size + 1 + 1 + 1 ≤ b := hS; omega) ((list rSn).keep ((((((Kept.ofBelow b9).setCell _ _ ne0).setCell _ _ ne0).setCell _ _ ne0).setCell _ _ ne0).setCell _ _ ne0) RP4.out)⟩, rfl⟩⟩

end Go.Proofs.Ytolgbnpginifkaa.mget
