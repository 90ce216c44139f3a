/- The contract of msg.getView. -/
import Derived.Test.YtolgbnpginifkaaMListA
import Derived.Test.YtolgbnpginifkaaMIntoL
namespace Go.Proofs.Ytolgbnpginifkaa.mget
open Go.ChangeShapes Go.WideShapes Go.ChangeAt Go.RowKit codec st own get blk rep ent msgd entget minto
open into (adv fI fT fB fV)
set_option linter.unusedVariables false

open mdone mlist
def zVw : List Value := [.int .i64 0, .int .i64 0, .int .i64 0, .int .i64 0, .slice none 0 0]
theorem endVw (l : List UInt8) (at_ : Nat) (u4 : Value) (w : World) (lo : Nat) (hr4 : RepIf (list rMem) (getL getMem l) [u4] (adv (fI l) 3 (adv (fI l) 2 (adv (fI l) 1 (adv (fI l) 0 (some (zVw, at_)))))) lo w) :
    match advS (getL getMem l) 4 [u4] (adv (fI l) 3 (adv (fI l) 2 (adv (fI l) 1 (adv (fI l) 0 (some (zVw, at_)))))) with
    | none => getVw l at_ = none
    | some s => ∃ x, getVw l at_ = some (x, s.2) ∧ s.1 = [.int .i64 x.shard, .int .i64 x.epoch, .int .i64 x.gen, .int .i64 x.phase, u4] ∧ (list rMem).rep w (fun b => lo ≤ b) x.chain [u4] := by
  simp only [adv, advS, setAt, fI] at *
  rcases h0 : getI l at_ with _ | ⟨x0, p0⟩
  · simp [getVw, h0]
  rcases h1 : getI l p0 with _ | ⟨x1, p1⟩
  · simp [getVw, h0, h1]
  rcases h2 : getI l p1 with _ | ⟨x2, p2⟩
  · simp [getVw, h0, h1, h2]
  rcases h3 : getI l p2 with _ | ⟨x3, p3⟩
  · simp [getVw, h0, h1, h2, h3]
  rcases h4 : getL getMem l p3 with _ | ⟨x4, p4⟩
  · simp [getVw, h0, h1, h2, h3, h4]
  simp only [Option.bind_some, Option.map_some, h0, h1, h2, h3, h4]
  refine ⟨⟨x0, x1, x2, x3, x4⟩, by simp [getVw, h0, h1, h2, h3, h4], by simp [zVw], ?_⟩
  · exact hr4 [.int .i64 x0, .int .i64 x1, .int .i64 x2, .int .i64 x3, .slice none 0 0] p3 x4 p4 (by simp [zVw, h0, h1, h2, h3]) h4

set_option maxRecDepth 100000 in
set_option maxHeartbeats 4000000 in
theorem getVw_any (bv : Value) (l : List UInt8) (at_ : Nat) (w : World) (hR : Rd w bv l) (ha : at_ ≤ 9223372036854775000) (hl : l.length ≤ 9223372036854000000) :
    Calls Try.prog 70 #[bv, .int .i64 at_] w (Got rVw packA (packA zVw) (getVw l at_) w) := by
  have HR := Lib.hid hR
  obtain ⟨a1, c1, rfl, k1, m1, -⟩ := hR
  have r0 := Rst.start HR.out zVw 125 101 (.cells zVw.toArray 125) at_ ha (w.heap.size + 1) (w.heap.size + 1 + 1) rfl rfl zVw.toArray rfl [1, 1, 1, 1, 5] rfl
  have g0 : Below (w.heap.size + 1) (w.alloc (.cells zVw.toArray 125)) (((w.alloc (.cells zVw.toArray 125)).alloc (.cells zVw.toArray 125)).alloc (.cells #[.slice a1 l.length c1, .int .i64 at_, .bool true] 101)) :=
    ((Below.refl _ _).alloc (by simp) _).alloc (by simp) _
  have z0 := Blk.new w zVw 125
  have gw : Below w.heap.size w (w.alloc (.cells zVw.toArray 125)) := (Below.refl _ _).alloc (Nat.le_refl _) _
  have s0 : w.heap.size + 1 + 1 + 1 ≤ (((w.alloc (.cells zVw.toArray 125)).alloc (.cells zVw.toArray 125)).alloc (.cells #[.slice a1 l.length c1, .int .i64 at_, .bool true] 101)).heap.size := by simp
  go_enter Try.func70, Try.ntmps70
  go_wp2_with fail
  refine (minto.int_any (w.heap.size + 1) (w.heap.size + 1 + 1 + 1) _ _ 0 _ l _ _ _ r0 ⟨by omega, by omega⟩ rfl hl).mono ?_
  rintro r w1 ⟨rfl, b1, k1, r1⟩
  have g1 := g0.trans b1
  have s1 := Nat.le_trans s0 b1.size
  go_wp2_with fail
  refine (minto.int_any (w.heap.size + 1) (w.heap.size + 1 + 1 + 1) _ _ 1 _ l _ _ _ r1 ⟨by omega, by omega⟩ rfl hl).mono ?_
  rintro r w2 ⟨rfl, b2, k2, r2⟩
  have g2 := g1.trans b2
  have s2 := Nat.le_trans s1 b2.size
  go_wp2_with fail
  refine (minto.int_any (w.heap.size + 1) (w.heap.size + 1 + 1 + 1) _ _ 2 _ l _ _ _ r2 ⟨by omega, by omega⟩ rfl hl).mono ?_
  rintro r w3 ⟨rfl, b3, k3, r3⟩
  have g3 := g2.trans b3
  have s3 := Nat.le_trans s2 b3.size
  go_wp2_with fail
  refine (minto.int_any (w.heap.size + 1) (w.heap.size + 1 + 1 + 1) _ _ 3 _ l _ _ _ r3 ⟨by omega, by omega⟩ rfl hl).mono ?_
  rintro r w4 ⟨rfl, b4, k4, r4⟩
  have g4 := g3.trans b4
  have s4 := Nat.le_trans s3 b4.size
  go_wp2_with fail
  refine (lofMem_any _).mono ?_
  rintro r x4 ⟨rfl, rfl⟩
  have al4 := (Below.refl w4.heap.size w4).alloc (Nat.le_refl _) (.cells #[.func (.func 67) #[] #[]] 120)
  have rr4 := r4.quiet al4
  have kf4 := Blk.new w4 [.func (.func 67) #[] #[]] 120
  go_wp2_with fail
  refine (minto.mems_any (w.heap.size + 1) (w.heap.size + 1 + 1 + 1) _ _ 4 w4.heap.size _ l _ _ _ rr4 ⟨by omega, by omega⟩ (Nat.le_trans s4 al4.size) rfl hl (fun p w1 hb hr hp => mlist.lst_mem _ l p _ w1 hr hp hl ((kf4.below hb kf4.lt).cell rfl))).mono ?_
  rintro r w5 ⟨cs4, q4, hcs4, rfl, b5, k5, r5⟩
  obtain ⟨u4, rfl⟩ : ∃ u, cs4 = [u] := List.length_eq_one_iff.1 hcs4
  have g5 := (g4.trans (al4.mono (by omega))).trans b5
  have s5 := Nat.le_trans (Nat.le_trans s4 al4.size) b5.size
  obtain ⟨p, ok, es, bk1, bk2, hes, hp, hE⟩ := r5.fin
  have hend := endVw l at_ u4 w5 (w.heap.size + 1 + 1 + 1) q4
  have HE := Lib.hid hE
  clear hE
  obtain ⟨c0, c1, c2, c3, c4, d4, e4, rfl⟩ := invVw hes
  have z1 := z0.below g5 (Nat.lt_succ_self _)
  have gz := gw.trans (g5.mono (Nat.le_succ _))
  have ec0 := bk2.cell (j := 0) rfl
  have ec1 := bk2.cell (j := 1) rfl
  have ec2 := bk2.cell (j := 2) rfl
  have ec3 := bk2.cell (j := 3) rfl
  have ec4 := bk2.cell (j := 4) rfl
  go_wp2_with fail
  refine (doneVw_any _ _ p ok c0 c1 c2 c3 c4 d4 e4 w5 bk1).mono ?_
  rintro r w9 ⟨rfl, b9⟩
  have z9 := z1.below b9 (by have := z1.lt; omega)
  have g9 := gz.trans (b9.mono (by have := z1.lt; omega))
  have zc0 := z9.cell (j := 0) rfl
  have zf0 := z9.free 0
  have zc1 := z9.cell (j := 1) rfl
  have zf1 := z9.free 1
  have zc2 := z9.cell (j := 2) rfl
  have zf2 := z9.free 2
  have zc3 := z9.cell (j := 3) rfl
  have zf3 := z9.free 3
  have zc4 := z9.cell (j := 4) rfl
  have zf4 := z9.free 4
  cases ok
  · have hend' : getVw l at_ = none := by rw [HE.out] at hend; exact hend
    simp only [Bool.false_eq_true, if_false]
    go_wp2_with fail
    exact entget.retB (v := .tuple #[packA zVw, .int .i64 0, .bool false]) (b := w.heap.size) (cs := zVw) ((((((z9.set 0 _).set 1 _).set 2 _).set 3 _).set 4 _)) (fun W hW => by
      have y0 := hW.cell (j := 0) rfl
      have y1 := hW.cell (j := 1) rfl
      have y2 := hW.cell (j := 2) rfl
      have y3 := hW.cell (j := 3) rfl
      have y4 := hW.cell (j := 4) rfl
      simp [results, Try.results70, go_sem, y0, y1, y2, y3, y4]
      try rfl) rfl ⟨(((((g9.setCell (Nat.le_refl _) _).setCell (Nat.le_refl _) _).setCell (Nat.le_refl _) _).setCell (Nat.le_refl _) _).setCell (Nat.le_refl _) _), by rw [hend']⟩
  · obtain ⟨x, hx, hxs, rp4⟩ : ∃ x, getVw l at_ = some (x, p) ∧ ([.int .i64 c0, .int .i64 c1, .int .i64 c2, .int .i64 c3, .slice c4 d4 e4] : List Value) = [.int .i64 x.shard, .int .i64 x.epoch, .int .i64 x.gen, .int .i64 x.phase, u4] ∧ (list rMem).rep w5 (fun b => w.heap.size + 1 + 1 + 1 ≤ b) x.chain [u4] := by rw [HE.out] at hend; exact hend
    have HX := Lib.hid hx
    have HXS := Lib.hid hxs
    clear hx hxs
    have RP4 := Lib.hid rp4
    clear rp4
    have ne0 : ¬ w.heap.size + 1 + 1 + 1 ≤ w.heap.size := by omega
    simp only [if_true]
    go_wp2_with fail
    exact entget.retB (v := .tuple #[packA [.int .i64 c0, .int .i64 c1, .int .i64 c2, .int .i64 c3, .slice c4 d4 e4], .int .i64 p, .bool true]) (b := w.heap.size) (cs := [.int .i64 c0, .int .i64 c1, .int .i64 c2, .int .i64 c3, .slice c4 d4 e4]) ((((((z9.set 0 _).set 1 _).set 2 _).set 3 _).set 4 _)) (fun W hW => by
      have y0 := hW.cell (j := 0) rfl
      have y1 := hW.cell (j := 1) rfl
      have y2 := hW.cell (j := 2) rfl
      have y3 := hW.cell (j := 3) rfl
      have y4 := hW.cell (j := 4) rfl
      simp [results, Try.results70, go_sem, y0, y1, y2, y3, y4]
      try rfl) rfl ⟨(((((g9.setCell (Nat.le_refl _) _).setCell (Nat.le_refl _) _).setCell (Nat.le_refl _) _).setCell (Nat.le_refl _) _).setCell (Nat.le_refl _) _), by rw [HX.out]; exact ⟨_, ⟨u4, HXS.out, (list rMem).mono (fun b hS _ => by have hS : w.heap.size + 1 + 1 + 1 ≤ b := hS; omega) ((list rMem).keep ((((((Kept.ofBelow b9).setCell _ _ ne0).setCell _ _ ne0).setCell _ _ ne0).setCell _ _ ne0).setCell _ _ ne0) RP4.out)⟩, rfl⟩⟩

end Go.Proofs.Ytolgbnpginifkaa.mget
