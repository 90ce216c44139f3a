/- The contracts of msg.GetViews and msg.Get. -/
import Derived.Test.YtolgbnpginifkaaMIntoS
import Derived.Test.YtolgbnpginifkaaMListB
import Derived.Test.YtolgbnpginifkaaBig
namespace Go.Proofs.Ytolgbnpginifkaa.mget
open Go.ChangeShapes Go.WideShapes Go.ChangeAt Go.RowKit codec st own get blk rep ent msgd entget minto
open into (adv fI fT fB fV)
set_option linter.unusedVariables false

open mdone mlist big
def zMs : List Value := [.int .i64 0, .int .i64 0, .int .i64 0, .int .i64 0, .int .i64 0, .int .i64 0, .int .i64 0, .int .i64 0, .int .i64 0, .int .i64 0, .int .i64 0, .int .i64 0, .bool false, .bool false, .string ⟨#[]⟩, .string ⟨#[]⟩, .complex .f64 0 0, .complex .f64 0 0, .int .i64 0, .string ⟨#[]⟩, .string ⟨#[]⟩, .string ⟨#[]⟩, .bool false, .slice none 0 0, .slice none 0 0, .slice none 0 0, .complex .f64 0 0, .complex .f64 0 0, .int .i64 0, .slice none 0 0, .slice none 0 0]
/-- A message in memory. -/
def rMs : Rep MsD where
  size := 31
  rep := fun w S x cs => ∃ n0 n1 n2 n3 n4 n5 n6 n7 n8 n9 n10 n11 u0 u1 u2 u3 u4, x.ns = [n0, n1, n2, n3, n4, n5, n6, n7, n8, n9, n10, n11] ∧
    cs = [.int .i64 n0, .int .i64 n1, .int .i64 n2, .int .i64 n3, .int .i64 n4, .int .i64 n5, .int .i64 n6, .int .i64 n7, .int .i64 n8, .int .i64 n9, .int .i64 n10, .int .i64 n11, .bool x.has, .bool x.fresh, .string ⟨x.key.toArray⟩, .string ⟨x.val.toArray⟩,
      .complex .f64 (flt.F x.ver.1) (flt.F x.ver.2), .complex .f64 (flt.F x.floor.1) (flt.F x.floor.2), .int .i64 x.op.kind, .string ⟨x.op.key.toArray⟩, .string ⟨x.op.val.toArray⟩, .string ⟨x.op.old.toArray⟩, .bool x.op.has, u0, u1, u2,
      .complex .f64 (flt.F x.img.floor.1) (flt.F x.img.floor.2), .complex .f64 (flt.F x.img.last.1) (flt.F x.img.last.2), .int .i64 x.img.gen, u3, u4] ∧
    (list rE).rep w S x.ents [u0] ∧ (list rMem).rep w S x.chain [u1] ∧ (list rVw).rep w S x.views [u2] ∧ (list rE).rep w S x.img.log [u3] ∧ (list rSn).rep w S x.img.seen [u4]
  len := fun ⟨_, _, _, _, _, _, _, _, _, _, _, _, _, _, _, _, _, _, e, _⟩ => by subst e; rfl
  one := fun ⟨_, _, _, _, _, _, _, _, _, _, _, _, u0, u1, u2, u3, u4, _, e, h0, h1, h2, h3, h4⟩ y hy => by
    subst e
    have g0 := (list rE).one h0 u0 (by simp)
    have g1 := (list rMem).one h1 u1 (by simp)
    have g2 := (list rVw).one h2 u2 (by simp)
    have g3 := (list rE).one h3 u3 (by simp)
    have g4 := (list rSn).one h4 u4 (by simp)
    simp only [List.mem_cons, List.not_mem_nil, or_false] at hy
    rcases hy with rfl | rfl | rfl | rfl | rfl | rfl | rfl | rfl | rfl | rfl | rfl | rfl | rfl | rfl | rfl | rfl | rfl | rfl | rfl | rfl | rfl | rfl | rfl | rfl | rfl | rfl | rfl | rfl | rfl | rfl | rfl <;> first | rfl | assumption
  keep := fun k ⟨n0, n1, n2, n3, n4, n5, n6, n7, n8, n9, n10, n11, u0, u1, u2, u3, u4, hn, e, h0, h1, h2, h3, h4⟩ =>
    ⟨n0, n1, n2, n3, n4, n5, n6, n7, n8, n9, n10, n11, u0, u1, u2, u3, u4, hn, e, (list rE).keep k h0, (list rMem).keep k h1, (list rVw).keep k h2, (list rE).keep k h3, (list rSn).keep k h4⟩
  mono := fun k ⟨n0, n1, n2, n3, n4, n5, n6, n7, n8, n9, n10, n11, u0, u1, u2, u3, u4, hn, e, h0, h1, h2, h3, h4⟩ =>
    ⟨n0, n1, n2, n3, n4, n5, n6, n7, n8, n9, n10, n11, u0, u1, u2, u3, u4, hn, e, (list rE).mono k h0, (list rMem).mono k h1, (list rVw).mono k h2, (list rE).mono k h3, (list rSn).mono k h4⟩

/-- Numbers into the next cells. -/
def advF (l : List UInt8) : Nat → Nat → Option (List Value × Nat) → Option (List Value × Nat)
  | _, 0, s => s
  | i, n + 1, s => advF l (i + 1) n (adv (fI l) i s)
theorem advF_none (l : List UInt8) : ∀ n i : Nat, advF l i n none = none
  | 0, _ => rfl
  | n + 1, i => advF_none l n (i + 1)
theorem advF_eq (l : List UInt8) (rest : List Value) : ∀ (n : Nat) (pre zs : List Value) (p : Nat), zs.length = n →
    advF l pre.length n (some (pre ++ zs ++ rest, p)) = (getN getI l n p).map fun r => (pre ++ r.1.map (.int .i64 ·) ++ rest, r.2)
  | 0, pre, zs, p, h => by
    have : zs = [] := List.length_eq_zero_iff.1 h
    subst this
    simp [advF, getN]
  | n + 1, pre, [], p, h => by simp at h
  | n + 1, pre, z :: zs, p, h => by
    have hl : zs.length = n := by simpa using h
    cases hr : getI l p with
    | none => simp [advF, adv, fI, hr, advF_none, getN]
    | some q =>
      obtain ⟨m, nx⟩ := q
      have e : adv (fI l) pre.length (some (pre ++ z :: zs ++ rest, p)) = some ((pre ++ [.int .i64 m]) ++ zs ++ rest, nx) := by
        simp [adv, fI, hr]
      have ih := advF_eq l rest n (pre ++ [.int .i64 m]) zs nx hl
      rw [advF, e, show pre.length + 1 = (pre ++ [Value.int .i64 m]).length by simp, ih, getN_some hr, Option.map_map]
      congr 1
      funext r
      simp

theorem list12 {α : Type} {l : List α} (h : l.length = 12) : ∃ a0 a1 a2 a3 a4 a5 a6 a7 a8 a9 a10 a11, l = [a0, a1, a2, a3, a4, a5, a6, a7, a8, a9, a10, a11] := by
  match l, h with
  | [a0, a1, a2, a3, a4, a5, a6, a7, a8, a9, a10, a11], _ => exact ⟨a0, a1, a2, a3, a4, a5, a6, a7, a8, a9, a10, a11, rfl⟩

theorem adv_none (g : Nat → Option (Value × Nat)) (k : Nat) : adv g k none = none := rfl
theorem advS_none {α : Type} (g : Nat → Option (α × Nat)) (k : Nat) (cs : List Value) : advS g k cs none = none := rfl
theorem stepB {l : List UInt8} {p q : Nat} {x : Bool} (h : getB l p = some (x, q)) (k : Nat) (es : List Value) : adv (fB l) k (some (es, p)) = some (es.set k (.bool x), q) := by simp [adv, fB, h]
theorem stepT {l : List UInt8} {p q : Nat} {x : List UInt8} (h : getT l p = some (x, q)) (k : Nat) (es : List Value) : adv (fT l) k (some (es, p)) = some (es.set k (.string ⟨x.toArray⟩), q) := by simp [adv, fT, h]
theorem stepV {l : List UInt8} {p q : Nat} {x y : Int} (h : getV l p = some ((x, y), q)) (k : Nat) (es : List Value) : adv (fV l) k (some (es, p)) = some (es.set k (.complex .f64 (flt.F x) (flt.F y)), q) := by simp [adv, fV, h]
theorem stepS {α : Type} {g : Nat → Option (α × Nat)} {p q : Nat} {x : α} (h : g p = some (x, q)) (k : Nat) (cs es : List Value) : advS g k cs (some (es, p)) = some (setAt es k cs, q) := by simp [advS, h]
theorem stepNB {l : List UInt8} {p : Nat} (h : getB l p = none) (k : Nat) (es : List Value) : adv (fB l) k (some (es, p)) = none := by simp [adv, fB, h]
theorem stepNT {l : List UInt8} {p : Nat} (h : getT l p = none) (k : Nat) (es : List Value) : adv (fT l) k (some (es, p)) = none := by simp [adv, fT, h]
theorem stepNV {l : List UInt8} {p : Nat} (h : getV l p = none) (k : Nat) (es : List Value) : adv (fV l) k (some (es, p)) = none := by simp [adv, fV, h]
theorem stepNS {α : Type} {g : Nat → Option (α × Nat)} {p : Nat} (h : g p = none) (k : Nat) (cs es : List Value) : advS g k cs (some (es, p)) = none := by simp [advS, h]

/-- The message whose bytes these are. -/
def getMsg (l : List UInt8) : Option MsD := (getMs l 0).bind fun x => if x.2 = l.length then some x.1 else none

theorem endMs (l : List UInt8) (co ci : List Value) (u0 u1 u2 : Value) (w : World) (lo : Nat)
    (q6 : RepIf rO (getO l) co (adv (fV l) 17 (adv (fV l) 16 (adv (fT l) 15 (adv (fT l) 14 (adv (fB l) 13 (adv (fB l) 12 (advF l 0 12 (some (zMs, 0))))))))) lo w) (q7 : RepIf (list rE) (getL getE l) [u0] (advS (getO l) 18 co (adv (fV l) 17 (adv (fV l) 16 (adv (fT l) 15 (adv (fT l) 14 (adv (fB l) 13 (adv (fB l) 12 (advF l 0 12 (some (zMs, 0)))))))))) lo w) (q8 : RepIf (list rMem) (getL getMem l) [u1] (advS (getL getE l) 23 [u0] (advS (getO l) 18 co (adv (fV l) 17 (adv (fV l) 16 (adv (fT l) 15 (adv (fT l) 14 (adv (fB l) 13 (adv (fB l) 12 (advF l 0 12 (some (zMs, 0))))))))))) lo w) (q9 : RepIf (list rVw) (getL getVw l) [u2] (advS (getL getMem l) 24 [u1] (advS (getL getE l) 23 [u0] (advS (getO l) 18 co (adv (fV l) 17 (adv (fV l) 16 (adv (fT l) 15 (adv (fT l) 14 (adv (fB l) 13 (adv (fB l) 12 (advF l 0 12 (some (zMs, 0)))))))))))) lo w) (q10 : RepIf rIm (getIm l) ci (advS (getL getVw l) 25 [u2] (advS (getL getMem l) 24 [u1] (advS (getL getE l) 23 [u0] (advS (getO l) 18 co (adv (fV l) 17 (adv (fV l) 16 (adv (fT l) 15 (adv (fT l) 14 (adv (fB l) 13 (adv (fB l) 12 (advF l 0 12 (some (zMs, 0))))))))))))) lo w) :
    match advS (getIm l) 26 ci (advS (getL getVw l) 25 [u2] (advS (getL getMem l) 24 [u1] (advS (getL getE l) 23 [u0] (advS (getO l) 18 co (adv (fV l) 17 (adv (fV l) 16 (adv (fT l) 15 (adv (fT l) 14 (adv (fB l) 13 (adv (fB l) 12 (advF l 0 12 (some (zMs, 0))))))))))))) with
    | none => getMs l 0 = none
    | some s => ∃ x, getMs l 0 = some (x, s.2) ∧ rMs.rep w (fun b => lo ≤ b) x s.1 := by
  have e0 : advF l 0 12 (some (zMs, 0)) = (getN getI l 12 0).map fun r => (r.1.map (.int .i64 ·) ++ [.bool false, .bool false, .string ⟨#[]⟩, .string ⟨#[]⟩, .complex .f64 0 0, .complex .f64 0 0, .int .i64 0, .string ⟨#[]⟩, .string ⟨#[]⟩, .string ⟨#[]⟩, .bool false, .slice none 0 0, .slice none 0 0, .slice none 0 0, .complex .f64 0 0, .complex .f64 0 0, .int .i64 0, .slice none 0 0, .slice none 0 0], r.2) := advF_eq l [.bool false, .bool false, .string ⟨#[]⟩, .string ⟨#[]⟩, .complex .f64 0 0, .complex .f64 0 0, .int .i64 0, .string ⟨#[]⟩, .string ⟨#[]⟩, .string ⟨#[]⟩, .bool false, .slice none 0 0, .slice none 0 0, .slice none 0 0, .complex .f64 0 0, .complex .f64 0 0, .int .i64 0, .slice none 0 0, .slice none 0 0] 12 [] [.int .i64 0, .int .i64 0, .int .i64 0, .int .i64 0, .int .i64 0, .int .i64 0, .int .i64 0, .int .i64 0, .int .i64 0, .int .i64 0, .int .i64 0, .int .i64 0] 0 rfl
  rw [e0] at q6 q7 q8 q9 q10 ⊢
  clear e0
  rcases h0 : getN getI l 12 0 with _ | ⟨x0, p0⟩
  · simp only [Option.map_none, adv_none, advS_none]
    simp [getMs, h0]
  obtain ⟨n0, n1, n2, n3, n4, n5, n6, n7, n8, n9, n10, n11, rfl⟩ := list12 (lawN l 0 x0 p0 h0).2.2.2.1
  simp only [h0, Option.map_some, List.map_cons, List.map_nil, List.cons_append, List.nil_append] at q6 q7 q8 q9 q10 ⊢
  rcases h1 : getB l p0 with _ | ⟨x1, p1⟩
  · simp only [stepNB h1, adv_none, advS_none]
    simp [getMs, h0, h1]
  simp only [stepB h1] at q6 q7 q8 q9 q10 ⊢
  rcases h2 : getB l p1 with _ | ⟨x2, p2⟩
  · simp only [stepNB h2, adv_none, advS_none]
    simp [getMs, h0, h1, h2]
  simp only [stepB h2] at q6 q7 q8 q9 q10 ⊢
  rcases h3 : getT l p2 with _ | ⟨x3, p3⟩
  · simp only [stepNT h3, adv_none, advS_none]
    simp [getMs, h0, h1, h2, h3]
  simp only [stepT h3] at q6 q7 q8 q9 q10 ⊢
  rcases h4 : getT l p3 with _ | ⟨x4, p4⟩
  · simp only [stepNT h4, adv_none, advS_none]
    simp [getMs, h0, h1, h2, h3, h4]
  simp only [stepT h4] at q6 q7 q8 q9 q10 ⊢
  rcases h5 : getV l p4 with _ | ⟨⟨x5, y5⟩, p5⟩
  · simp only [stepNV h5, adv_none, advS_none]
    simp [getMs, h0, h1, h2, h3, h4, h5]
  simp only [stepV h5] at q6 q7 q8 q9 q10 ⊢
  rcases h6 : getV l p5 with _ | ⟨⟨x6, y6⟩, p6⟩
  · simp only [stepNV h6, advS_none]
    simp [getMs, h0, h1, h2, h3, h4, h5, h6]
  simp only [stepV h6] at q6 q7 q8 q9 q10 ⊢
  rcases h7 : getO l p6 with _ | ⟨x7, p7⟩
  · simp only [stepNS h7, advS_none]
    simp [getMs, h0, h1, h2, h3, h4, h5, h6, h7]
  have q6' := q6 _ p6 x7 p7 rfl h7
  clear q6
  simp only [stepS h7] at q7 q8 q9 q10 ⊢
  rcases h8 : getL getE l p7 with _ | ⟨x8, p8⟩
  · simp only [stepNS h8, advS_none]
    simp [getMs, h0, h1, h2, h3, h4, h5, h6, h7, h8]
  have q7' := q7 _ p7 x8 p8 rfl h8
  clear q7
  simp only [stepS h8] at q8 q9 q10 ⊢
  rcases h9 : getL getMem l p8 with _ | ⟨x9, p9⟩
  · simp only [stepNS h9, advS_none]
    simp [getMs, h0, h1, h2, h3, h4, h5, h6, h7, h8, h9]
  have q8' := q8 _ p8 x9 p9 rfl h9
  clear q8
  simp only [stepS h9] at q9 q10 ⊢
  rcases h10 : getL getVw l p9 with _ | ⟨x10, p10⟩
  · simp only [stepNS h10, advS_none]
    simp [getMs, h0, h1, h2, h3, h4, h5, h6, h7, h8, h9, h10]
  have q9' := q9 _ p9 x10 p10 rfl h10
  clear q9
  simp only [stepS h10] at q10 ⊢
  rcases h11 : getIm l p10 with _ | ⟨x11, p11⟩
  · simp only [stepNS h11]
    simp [getMs, h0, h1, h2, h3, h4, h5, h6, h7, h8, h9, h10, h11]
  have q10' := q10 _ p10 x11 p11 rfl h11
  clear q10
  simp only [stepS h11] at  ⊢
  obtain rfl : co = cO x7 := q6'
  obtain ⟨u3, u4, rfl, r3, r4⟩ := q10'
  refine ⟨⟨[n0, n1, n2, n3, n4, n5, n6, n7, n8, n9, n10, n11], x1, x2, x3, x4, (x5, y5), (x6, y6), x7, x8, x9, x10, x11⟩, ?_, n0, n1, n2, n3, n4, n5, n6, n7, n8, n9, n10, n11, u0, u1, u2, u3, u4, rfl, ?_, q7', q8', q9', r3, r4⟩
  · simp [getMs, h0, h1, h2, h3, h4, h5, h6, h7, h8, h9, h10, h11]
  · simp only [setAt, cO, List.set_cons_succ, List.set_cons_zero]

set_option maxRecDepth 100000 in
theorem views_any (bv : Value) (l : List UInt8) (at_ : Nat) (w : World) (hR : Rd w bv l) (ha : at_ ≤ 9223372036854775000) (hl : l.length ≤ 9223372036854000000) :
    Calls Try.prog 40 #[bv, .int .i64 at_] w (Got (rep.list rVw) packV (.slice none 0 0) (getL getVw l at_) w) := by
  have al := (Below.refl w.heap.size w).alloc (Nat.le_refl _) (.cells #[.func (.func 70) #[] #[]] 126)
  have kf := Blk.new w [.func (.func 70) #[] #[]] 126
  have G := mlist.lst_vw bv l at_ _ _ (hR.below al (Nat.le_refl _)) ha hl (kf.cell rfl)
  cases hr : getL getVw l at_ with
  | none =>
    rw [hr] at G
    clear hr
    go_enter Try.func40, Try.ntmps40
    go_wp2_with fail
    refine (lofVw_any _).mono ?_
    rintro r x0 ⟨rfl, rfl⟩
    go_wp2_with fail
    refine G.mono ?_
    rintro r w1 ⟨hb, rfl⟩
    go_wp2_with fail
    go_ret3
    exact ⟨al.trans (hb.mono al.size), rfl⟩
  | some q =>
    obtain ⟨x, nx⟩ := q
    rw [hr] at G
    clear hr
    go_enter Try.func40, Try.ntmps40
    go_wp2_with fail
    refine (lofVw_any _).mono ?_
    rintro r x0 ⟨rfl, rfl⟩
    go_wp2_with fail
    refine G.mono ?_
    rintro r w1 ⟨hb, cs, hrep, rfl⟩
    have HREP := Lib.hid hrep
    obtain ⟨v, rows, rfl, hrow, hl0, a, cap, rfl, hd⟩ := hrep
    simp only [packV, List.headD_cons]
    go_wp2_with fail
    go_ret3
    exact ⟨al.trans (hb.mono al.size), _, (rep.list rVw).mono (fun b hS _ => Nat.le_trans al.size hS) HREP.out, rfl⟩

theorem invMs {es : List Value} (h : es.map kd = [1, 1, 1, 1, 1, 1, 1, 1, 1, 1, 1, 1, 3, 3, 2, 2, 4, 4, 1, 2, 2, 2, 3, 5, 5, 5, 4, 4, 1, 5, 5]) : ∃ c0 c1 c2 c3 c4 c5 c6 c7 c8 c9 c10 c11 c12 c13 c14 c15 c16 d16 c17 d17 c18 c19 c20 c21 c22 c23 d23 e23 c24 d24 e24 c25 d25 e25 c26 d26 c27 d27 c28 c29 d29 e29 c30 d30 e30, es = [.int .i64 c0, .int .i64 c1, .int .i64 c2, .int .i64 c3, .int .i64 c4, .int .i64 c5, .int .i64 c6, .int .i64 c7, .int .i64 c8, .int .i64 c9, .int .i64 c10, .int .i64 c11, .bool c12, .bool c13, .string c14, .string c15, .complex .f64 c16 d16, .complex .f64 c17 d17, .int .i64 c18, .string c19, .string c20, .string c21, .bool c22, .slice c23 d23 e23, .slice c24 d24 e24, .slice c25 d25 e25, .complex .f64 c26 d26, .complex .f64 c27 d27, .int .i64 c28, .slice c29 d29 e29, .slice c30 d30 e30] := by
  have hl : es.length = 31 := by rw [← List.length_map (f := kd), h]; rfl
  obtain ⟨v0, v1, v2, v3, v4, v5, v6, v7, v8, v9, v10, v11, v12, v13, v14, v15, v16, v17, v18, v19, v20, v21, v22, v23, v24, v25, v26, v27, v28, v29, v30, rfl⟩ : ∃ v0 v1 v2 v3 v4 v5 v6 v7 v8 v9 v10 v11 v12 v13 v14 v15 v16 v17 v18 v19 v20 v21 v22 v23 v24 v25 v26 v27 v28 v29 v30, es = [v0, v1, v2, v3, v4, v5, v6, v7, v8, v9, v10, v11, v12, v13, v14, v15, v16, v17, v18, v19, v20, v21, v22, v23, v24, v25, v26, v27, v28, v29, v30] := by
    match es, hl with
    | [v0, v1, v2, v3, v4, v5, v6, v7, v8, v9, v10, v11, v12, v13, v14, v15, v16, v17, v18, v19, v20, v21, v22, v23, v24, v25, v26, v27, v28, v29, v30], _ => exact ⟨v0, v1, v2, v3, v4, v5, v6, v7, v8, v9, v10, v11, v12, v13, v14, v15, v16, v17, v18, v19, v20, v21, v22, v23, v24, v25, v26, v27, v28, v29, v30, rfl⟩
  simp only [List.map_cons, List.map_nil, List.cons.injEq, and_true] at h
  obtain ⟨h0, h1, h2, h3, h4, h5, h6, h7, h8, h9, h10, h11, h12, h13, h14, h15, h16, h17, h18, h19, h20, h21, h22, h23, h24, h25, h26, h27, h28, h29, h30⟩ := h
  obtain ⟨c0, rfl⟩ := kd1 h0
  obtain ⟨c1, rfl⟩ := kd1 h1
  obtain ⟨c2, rfl⟩ := kd1 h2
  obtain ⟨c3, rfl⟩ := kd1 h3
  obtain ⟨c4, rfl⟩ := kd1 h4
  obtain ⟨c5, rfl⟩ := kd1 h5
  obtain ⟨c6, rfl⟩ := kd1 h6
  obtain ⟨c7, rfl⟩ := kd1 h7
  obtain ⟨c8, rfl⟩ := kd1 h8
  obtain ⟨c9, rfl⟩ := kd1 h9
  obtain ⟨c10, rfl⟩ := kd1 h10
  obtain ⟨c11, rfl⟩ := kd1 h11
  obtain ⟨c12, rfl⟩ := kd3 h12
  obtain ⟨c13, rfl⟩ := kd3 h13
  obtain ⟨c14, rfl⟩ := kd2 h14
  obtain ⟨c15, rfl⟩ := kd2 h15
  obtain ⟨c16, d16, rfl⟩ := kd4 h16
  obtain ⟨c17, d17, rfl⟩ := kd4 h17
  obtain ⟨c18, rfl⟩ := kd1 h18
  obtain ⟨c19, rfl⟩ := kd2 h19
  obtain ⟨c20, rfl⟩ := kd2 h20
  obtain ⟨c21, rfl⟩ := kd2 h21
  obtain ⟨c22, rfl⟩ := kd3 h22
  obtain ⟨c23, d23, e23, rfl⟩ := kd5 h23
  obtain ⟨c24, d24, e24, rfl⟩ := kd5 h24
  obtain ⟨c25, d25, e25, rfl⟩ := kd5 h25
  obtain ⟨c26, d26, rfl⟩ := kd4 h26
  obtain ⟨c27, d27, rfl⟩ := kd4 h27
  obtain ⟨c28, rfl⟩ := kd1 h28
  obtain ⟨c29, d29, e29, rfl⟩ := kd5 h29
  obtain ⟨c30, d30, e30, rfl⟩ := kd5 h30
  exact ⟨_, _, _, _, _, _, _, _, _, _, _, _, _, _, _, _, _, _, _, _, _, _, _, _, _, _, _, _, _, _, _, _, _, _, _, _, _, _, _, _, _, _, _, _, _, rfl⟩

/-- Some of the loop's rounds are done. -/
def MAt (B rb eb : Nat) (bv : Value) (l : List UInt8) (w : World) (i : Value) (wr : World) : Prop :=
  ∃ (k m : Nat) (s : Option (List Value × Nat)), i = .int .i64 k ∧ k + m = 12 ∧ Rst B rb eb bv l [1, 1, 1, 1, 1, 1, 1, 1, 1, 1, 1, 1, 3, 3, 2, 2, 4, 4, 1, 2, 2, 2, 3, 5, 5, 5, 4, 4, 1, 5, 5] s wr ∧ Below B w wr ∧ advF l 0 12 (some (zMs, 0)) = advF l k m s

def GotM (l : List UInt8) (w : World) (e : Ending) (w' : World) : Prop :=
  Below w.heap.size w w' ∧ match getMsg l with
  | none => e = .returned (.tuple #[packA zMs, .bool false])
  | some x => ∃ cs, rMs.rep w' (fun b => w.heap.size ≤ b) x cs ∧ e = .returned (.tuple #[packA cs, .bool true])
theorem GotM.none {l : List UInt8} {w w' : World} (h : getMsg l = none) (hb : Below w.heap.size w w') : GotM l w (.returned (.tuple #[packA zMs, .bool false])) w' := by
  unfold GotM
  rw [h]
  exact ⟨hb, rfl⟩
theorem GotM.some {l : List UInt8} {w w' : World} {x : MsD} (h : getMsg l = some x) (hb : Below w.heap.size w w') {cs : List Value} (hr : rMs.rep w' (fun b => w.heap.size ≤ b) x cs) {e : Ending} (he : e = .returned (.tuple #[packA cs, .bool true])) : GotM l w e w' := by
  unfold GotM
  rw [h]
  exact ⟨hb, cs, hr, he⟩

theorem ix0 (b : Nat) (w : World) : (Instr.index 102 (.agg #[.pointer (some ⟨b, 0, none⟩), .pointer (some ⟨b, 1, none⟩), .pointer (some ⟨b, 2, none⟩), .pointer (some ⟨b, 3, none⟩), .pointer (some ⟨b, 4, none⟩), .pointer (some ⟨b, 5, none⟩), .pointer (some ⟨b, 6, none⟩), .pointer (some ⟨b, 7, none⟩), .pointer (some ⟨b, 8, none⟩), .pointer (some ⟨b, 9, none⟩), .pointer (some ⟨b, 10, none⟩), .pointer (some ⟨b, 11, none⟩)]) (.int .i64 0)).run Try.prog w = .ok (.pointer (some ⟨b, 0, none⟩)) w := by kernel_rfl
theorem ix1 (b : Nat) (w : World) : (Instr.index 102 (.agg #[.pointer (some ⟨b, 0, none⟩), .pointer (some ⟨b, 1, none⟩), .pointer (some ⟨b, 2, none⟩), .pointer (some ⟨b, 3, none⟩), .pointer (some ⟨b, 4, none⟩), .pointer (some ⟨b, 5, none⟩), .pointer (some ⟨b, 6, none⟩), .pointer (some ⟨b, 7, none⟩), .pointer (some ⟨b, 8, none⟩), .pointer (some ⟨b, 9, none⟩), .pointer (some ⟨b, 10, none⟩), .pointer (some ⟨b, 11, none⟩)]) (.int .i64 1)).run Try.prog w = .ok (.pointer (some ⟨b, 1, none⟩)) w := by kernel_rfl
theorem ix2 (b : Nat) (w : World) : (Instr.index 102 (.agg #[.pointer (some ⟨b, 0, none⟩), .pointer (some ⟨b, 1, none⟩), .pointer (some ⟨b, 2, none⟩), .pointer (some ⟨b, 3, none⟩), .pointer (some ⟨b, 4, none⟩), .pointer (some ⟨b, 5, none⟩), .pointer (some ⟨b, 6, none⟩), .pointer (some ⟨b, 7, none⟩), .pointer (some ⟨b, 8, none⟩), .pointer (some ⟨b, 9, none⟩), .pointer (some ⟨b, 10, none⟩), .pointer (some ⟨b, 11, none⟩)]) (.int .i64 2)).run Try.prog w = .ok (.pointer (some ⟨b, 2, none⟩)) w := by kernel_rfl
theorem ix3 (b : Nat) (w : World) : (Instr.index 102 (.agg #[.pointer (some ⟨b, 0, none⟩), .pointer (some ⟨b, 1, none⟩), .pointer (some ⟨b, 2, none⟩), .pointer (some ⟨b, 3, none⟩), .pointer (some ⟨b, 4, none⟩), .pointer (some ⟨b, 5, none⟩), .pointer (some ⟨b, 6, none⟩), .pointer (some ⟨b, 7, none⟩), .pointer (some ⟨b, 8, none⟩), .pointer (some ⟨b, 9, none⟩), .pointer (some ⟨b, 10, none⟩), .pointer (some ⟨b, 11, none⟩)]) (.int .i64 3)).run Try.prog w = .ok (.pointer (some ⟨b, 3, none⟩)) w := by kernel_rfl
theorem ix4 (b : Nat) (w : World) : (Instr.index 102 (.agg #[.pointer (some ⟨b, 0, none⟩), .pointer (some ⟨b, 1, none⟩), .pointer (some ⟨b, 2, none⟩), .pointer (some ⟨b, 3, none⟩), .pointer (some ⟨b, 4, none⟩), .pointer (some ⟨b, 5, none⟩), .pointer (some ⟨b, 6, none⟩), .pointer (some ⟨b, 7, none⟩), .pointer (some ⟨b, 8, none⟩), .pointer (some ⟨b, 9, none⟩), .pointer (some ⟨b, 10, none⟩), .pointer (some ⟨b, 11, none⟩)]) (.int .i64 4)).run Try.prog w = .ok (.pointer (some ⟨b, 4, none⟩)) w := by kernel_rfl
theorem ix5 (b : Nat) (w : World) : (Instr.index 102 (.agg #[.pointer (some ⟨b, 0, none⟩), .pointer (some ⟨b, 1, none⟩), .pointer (some ⟨b, 2, none⟩), .pointer (some ⟨b, 3, none⟩), .pointer (some ⟨b, 4, none⟩), .pointer (some ⟨b, 5, none⟩), .pointer (some ⟨b, 6, none⟩), .pointer (some ⟨b, 7, none⟩), .pointer (some ⟨b, 8, none⟩), .pointer (some ⟨b, 9, none⟩), .pointer (some ⟨b, 10, none⟩), .pointer (some ⟨b, 11, none⟩)]) (.int .i64 5)).run Try.prog w = .ok (.pointer (some ⟨b, 5, none⟩)) w := by kernel_rfl
theorem ix6 (b : Nat) (w : World) : (Instr.index 102 (.agg #[.pointer (some ⟨b, 0, none⟩), .pointer (some ⟨b, 1, none⟩), .pointer (some ⟨b, 2, none⟩), .pointer (some ⟨b, 3, none⟩), .pointer (some ⟨b, 4, none⟩), .pointer (some ⟨b, 5, none⟩), .pointer (some ⟨b, 6, none⟩), .pointer (some ⟨b, 7, none⟩), .pointer (some ⟨b, 8, none⟩), .pointer (some ⟨b, 9, none⟩), .pointer (some ⟨b, 10, none⟩), .pointer (some ⟨b, 11, none⟩)]) (.int .i64 6)).run Try.prog w = .ok (.pointer (some ⟨b, 6, none⟩)) w := by kernel_rfl
theorem ix7 (b : Nat) (w : World) : (Instr.index 102 (.agg #[.pointer (some ⟨b, 0, none⟩), .pointer (some ⟨b, 1, none⟩), .pointer (some ⟨b, 2, none⟩), .pointer (some ⟨b, 3, none⟩), .pointer (some ⟨b, 4, none⟩), .pointer (some ⟨b, 5, none⟩), .pointer (some ⟨b, 6, none⟩), .pointer (some ⟨b, 7, none⟩), .pointer (some ⟨b, 8, none⟩), .pointer (some ⟨b, 9, none⟩), .pointer (some ⟨b, 10, none⟩), .pointer (some ⟨b, 11, none⟩)]) (.int .i64 7)).run Try.prog w = .ok (.pointer (some ⟨b, 7, none⟩)) w := by kernel_rfl
theorem ix8 (b : Nat) (w : World) : (Instr.index 102 (.agg #[.pointer (some ⟨b, 0, none⟩), .pointer (some ⟨b, 1, none⟩), .pointer (some ⟨b, 2, none⟩), .pointer (some ⟨b, 3, none⟩), .pointer (some ⟨b, 4, none⟩), .pointer (some ⟨b, 5, none⟩), .pointer (some ⟨b, 6, none⟩), .pointer (some ⟨b, 7, none⟩), .pointer (some ⟨b, 8, none⟩), .pointer (some ⟨b, 9, none⟩), .pointer (some ⟨b, 10, none⟩), .pointer (some ⟨b, 11, none⟩)]) (.int .i64 8)).run Try.prog w = .ok (.pointer (some ⟨b, 8, none⟩)) w := by kernel_rfl
theorem ix9 (b : Nat) (w : World) : (Instr.index 102 (.agg #[.pointer (some ⟨b, 0, none⟩), .pointer (some ⟨b, 1, none⟩), .pointer (some ⟨b, 2, none⟩), .pointer (some ⟨b, 3, none⟩), .pointer (some ⟨b, 4, none⟩), .pointer (some ⟨b, 5, none⟩), .pointer (some ⟨b, 6, none⟩), .pointer (some ⟨b, 7, none⟩), .pointer (some ⟨b, 8, none⟩), .pointer (some ⟨b, 9, none⟩), .pointer (some ⟨b, 10, none⟩), .pointer (some ⟨b, 11, none⟩)]) (.int .i64 9)).run Try.prog w = .ok (.pointer (some ⟨b, 9, none⟩)) w := by kernel_rfl
theorem ix10 (b : Nat) (w : World) : (Instr.index 102 (.agg #[.pointer (some ⟨b, 0, none⟩), .pointer (some ⟨b, 1, none⟩), .pointer (some ⟨b, 2, none⟩), .pointer (some ⟨b, 3, none⟩), .pointer (some ⟨b, 4, none⟩), .pointer (some ⟨b, 5, none⟩), .pointer (some ⟨b, 6, none⟩), .pointer (some ⟨b, 7, none⟩), .pointer (some ⟨b, 8, none⟩), .pointer (some ⟨b, 9, none⟩), .pointer (some ⟨b, 10, none⟩), .pointer (some ⟨b, 11, none⟩)]) (.int .i64 10)).run Try.prog w = .ok (.pointer (some ⟨b, 10, none⟩)) w := by kernel_rfl
theorem ix11 (b : Nat) (w : World) : (Instr.index 102 (.agg #[.pointer (some ⟨b, 0, none⟩), .pointer (some ⟨b, 1, none⟩), .pointer (some ⟨b, 2, none⟩), .pointer (some ⟨b, 3, none⟩), .pointer (some ⟨b, 4, none⟩), .pointer (some ⟨b, 5, none⟩), .pointer (some ⟨b, 6, none⟩), .pointer (some ⟨b, 7, none⟩), .pointer (some ⟨b, 8, none⟩), .pointer (some ⟨b, 9, none⟩), .pointer (some ⟨b, 10, none⟩), .pointer (some ⟨b, 11, none⟩)]) (.int .i64 11)).run Try.prog w = .ok (.pointer (some ⟨b, 11, none⟩)) w := by kernel_rfl
set_option maxRecDepth 100000 in
set_option maxHeartbeats 40000000 in
theorem msg_any (bv : Value) (l : List UInt8) (w : World) (hR : Rd w bv l) (hl : l.length ≤ 9223372036854000000) :
    Calls Try.prog 36 #[bv] w (GotM l w) := by
  have HR := Lib.hid hR
  obtain ⟨a1, cap1, rfl, k1, m1, -⟩ := hR
  have r0 := Rst.start HR.out zMs 64 101 (.cells zMs.toArray 64) 0 (by omega) (w.heap.size + 1) (w.heap.size + 1 + 1) rfl rfl zMs.toArray rfl [1, 1, 1, 1, 1, 1, 1, 1, 1, 1, 1, 1, 3, 3, 2, 2, 4, 4, 1, 2, 2, 2, 3, 5, 5, 5, 4, 4, 1, 5, 5] rfl
  have g0 : Below (w.heap.size + 1) (w.alloc (.cells zMs.toArray 64)) (((w.alloc (.cells zMs.toArray 64)).alloc (.cells zMs.toArray 64)).alloc (.cells #[.slice a1 l.length cap1, .int .i64 (0 : Nat), .bool true] 101)) :=
    ((Below.refl _ _).alloc (by simp) _).alloc (by simp) _
  have z0 := Blk.new w zMs 64
  have gw : Below w.heap.size w (w.alloc (.cells zMs.toArray 64)) := (Below.refl _ _).alloc (Nat.le_refl _) _
  have s0 : w.heap.size + 1 + 1 + 1 ≤ (((w.alloc (.cells zMs.toArray 64)).alloc (.cells zMs.toArray 64)).alloc (.cells #[.slice a1 l.length cap1, .int .i64 (0 : Nat), .bool true] 101)).heap.size := by simp
  have h00 : ((0 : Nat) : Int) = 0 := rfl
  have hst : ∀ (x y : Nat) (w : World) (a : Addr) (q : Mode), (store a (.complex .f64 x y) q).run Try.prog w = stored Try.prog w a (.complex .f64 x y) q := fun x y w a q => run_store Try.prog w a _ q rfl
  go_enter Try.func36, Try.ntmps36
  go_wp2_with fail
  go_loopw [23] (fun i wr => MAt (w.heap.size + 1) (w.heap.size + 1 + 1) (w.heap.size + 1) (.slice a1 l.length cap1) l (((w.alloc (.cells zMs.toArray 64)).alloc (.cells zMs.toArray 64)).alloc (.cells #[.slice a1 l.length cap1, .int .i64 (0 : Nat), .bool true] 101)) i wr) (fun i _ => 12 - (intOf i).toNat)
  case atStart => exact ⟨0, 12, _, rfl, rfl, r0, Below.refl _ _, rfl⟩
  case round =>
    obtain ⟨k, m, s, rfl, hkm, rs, bs, hA⟩ := hrel
    have HA := Lib.hid hA
    clear hA
    cases m with
    | succ m =>
      have hk : k = 0 ∨ k = 1 ∨ k = 2 ∨ k = 3 ∨ k = 4 ∨ k = 5 ∨ k = 6 ∨ k = 7 ∨ k = 8 ∨ k = 9 ∨ k = 10 ∨ k = 11 := by omega
      rcases hk with rfl | rfl | rfl | rfl | rfl | rfl | rfl | rfl | rfl | rfl | rfl | rfl
      · have ix := ix0 (w.heap.size + 1)
        go_wp2_with fail
        refine (minto.int_any (w.heap.size + 1) (w.heap.size + 1 + 1 + 1) _ _ 0 _ l _ _ _ rs ⟨by omega, by omega⟩ rfl hl).mono ?_
        rintro r w1 ⟨rfl, b1, kk1, r1⟩
        go_wp2_with fail
        go_roundw
        case rel => exact ⟨1, m, _, rfl, by omega, r1, bs.trans b1, HA.out⟩
        case measure => simp [intOf]
      · have ix := ix1 (w.heap.size + 1)
        go_wp2_with fail
        refine (minto.int_any (w.heap.size + 1) (w.heap.size + 1 + 1 + 1) _ _ 1 _ l _ _ _ rs ⟨by omega, by omega⟩ rfl hl).mono ?_
        rintro r w1 ⟨rfl, b1, kk1, r1⟩
        go_wp2_with fail
        go_roundw
        case rel => exact ⟨2, m, _, rfl, by omega, r1, bs.trans b1, HA.out⟩
        case measure => simp [intOf]
      · have ix := ix2 (w.heap.size + 1)
        go_wp2_with fail
        refine (minto.int_any (w.heap.size + 1) (w.heap.size + 1 + 1 + 1) _ _ 2 _ l _ _ _ rs ⟨by omega, by omega⟩ rfl hl).mono ?_
        rintro r w1 ⟨rfl, b1, kk1, r1⟩
        go_wp2_with fail
        go_roundw
        case rel => exact ⟨3, m, _, rfl, by omega, r1, bs.trans b1, HA.out⟩
        case measure => simp [intOf]
      · have ix := ix3 (w.heap.size + 1)
        go_wp2_with fail
        refine (minto.int_any (w.heap.size + 1) (w.heap.size + 1 + 1 + 1) _ _ 3 _ l _ _ _ rs ⟨by omega, by omega⟩ rfl hl).mono ?_
        rintro r w1 ⟨rfl, b1, kk1, r1⟩
        go_wp2_with fail
        go_roundw
        case rel => exact ⟨4, m, _, rfl, by omega, r1, bs.trans b1, HA.out⟩
        case measure => simp [intOf]
      · have ix := ix4 (w.heap.size + 1)
        go_wp2_with fail
        refine (minto.int_any (w.heap.size + 1) (w.heap.size + 1 + 1 + 1) _ _ 4 _ l _ _ _ rs ⟨by omega, by omega⟩ rfl hl).mono ?_
        rintro r w1 ⟨rfl, b1, kk1, r1⟩
        go_wp2_with fail
        go_roundw
        case rel => exact ⟨5, m, _, rfl, by omega, r1, bs.trans b1, HA.out⟩
        case measure => simp [intOf]
      · have ix := ix5 (w.heap.size + 1)
        go_wp2_with fail
        refine (minto.int_any (w.heap.size + 1) (w.heap.size + 1 + 1 + 1) _ _ 5 _ l _ _ _ rs ⟨by omega, by omega⟩ rfl hl).mono ?_
        rintro r w1 ⟨rfl, b1, kk1, r1⟩
        go_wp2_with fail
        go_roundw
        case rel => exact ⟨6, m, _, rfl, by omega, r1, bs.trans b1, HA.out⟩
        case measure => simp [intOf]
      · have ix := ix6 (w.heap.size + 1)
        go_wp2_with fail
        refine (minto.int_any (w.heap.size + 1) (w.heap.size + 1 + 1 + 1) _ _ 6 _ l _ _ _ rs ⟨by omega, by omega⟩ rfl hl).mono ?_
        rintro r w1 ⟨rfl, b1, kk1, r1⟩
        go_wp2_with fail
        go_roundw
        case rel => exact ⟨7, m, _, rfl, by omega, r1, bs.trans b1, HA.out⟩
        case measure => simp [intOf]
      · have ix := ix7 (w.heap.size + 1)
        go_wp2_with fail
        refine (minto.int_any (w.heap.size + 1) (w.heap.size + 1 + 1 + 1) _ _ 7 _ l _ _ _ rs ⟨by omega, by omega⟩ rfl hl).mono ?_
        rintro r w1 ⟨rfl, b1, kk1, r1⟩
        go_wp2_with fail
        go_roundw
        case rel => exact ⟨8, m, _, rfl, by omega, r1, bs.trans b1, HA.out⟩
        case measure => simp [intOf]
      · have ix := ix8 (w.heap.size + 1)
        go_wp2_with fail
        refine (minto.int_any (w.heap.size + 1) (w.heap.size + 1 + 1 + 1) _ _ 8 _ l _ _ _ rs ⟨by omega, by omega⟩ rfl hl).mono ?_
        rintro r w1 ⟨rfl, b1, kk1, r1⟩
        go_wp2_with fail
        go_roundw
        case rel => exact ⟨9, m, _, rfl, by omega, r1, bs.trans b1, HA.out⟩
        case measure => simp [intOf]
      · have ix := ix9 (w.heap.size + 1)
        go_wp2_with fail
        refine (minto.int_any (w.heap.size + 1) (w.heap.size + 1 + 1 + 1) _ _ 9 _ l _ _ _ rs ⟨by omega, by omega⟩ rfl hl).mono ?_
        rintro r w1 ⟨rfl, b1, kk1, r1⟩
        go_wp2_with fail
        go_roundw
        case rel => exact ⟨10, m, _, rfl, by omega, r1, bs.trans b1, HA.out⟩
        case measure => simp [intOf]
      · have ix := ix10 (w.heap.size + 1)
        go_wp2_with fail
        refine (minto.int_any (w.heap.size + 1) (w.heap.size + 1 + 1 + 1) _ _ 10 _ l _ _ _ rs ⟨by omega, by omega⟩ rfl hl).mono ?_
        rintro r w1 ⟨rfl, b1, kk1, r1⟩
        go_wp2_with fail
        go_roundw
        case rel => exact ⟨11, m, _, rfl, by omega, r1, bs.trans b1, HA.out⟩
        case measure => simp [intOf]
      · have ix := ix11 (w.heap.size + 1)
        go_wp2_with fail
        refine (minto.int_any (w.heap.size + 1) (w.heap.size + 1 + 1 + 1) _ _ 11 _ l _ _ _ rs ⟨by omega, by omega⟩ rfl hl).mono ?_
        rintro r w1 ⟨rfl, b1, kk1, r1⟩
        go_wp2_with fail
        go_roundw
        case rel => exact ⟨12, m, _, rfl, by omega, r1, bs.trans b1, HA.out⟩
        case measure => simp [intOf]
    | zero =>
      obtain rfl : k = 12 := by omega
      have hs : s = advF l 0 12 (some (zMs, 0)) := HA.out.symm
      subst hs
      have g1 := g0.trans bs
      have s1 := Nat.le_trans s0 bs.size
      have r1 := rs
      go_wp2_with fail
      refine (minto.bool_any (w.heap.size + 1) (w.heap.size + 1 + 1 + 1) _ _ 12 _ l _ _ _ r1 ⟨by omega, by omega⟩ rfl hl).mono ?_
      rintro r w2 ⟨rfl, b2, k2, r2⟩
      have g2 := g1.trans b2
      have s2 := Nat.le_trans s1 b2.size
      go_wp2_with fail
      refine (minto.bool_any (w.heap.size + 1) (w.heap.size + 1 + 1 + 1) _ _ 13 _ l _ _ _ r2 ⟨by omega, by omega⟩ rfl hl).mono ?_
      rintro r w3 ⟨rfl, b3, k3, r3⟩
      have g3 := g2.trans b3
      have s3 := Nat.le_trans s2 b3.size
      go_wp2_with fail
      refine (minto.text_any (w.heap.size + 1) (w.heap.size + 1 + 1 + 1) _ _ 14 _ l _ _ _ r3 ⟨by omega, by omega⟩ rfl hl).mono ?_
      rintro r w4 ⟨rfl, b4, k4, r4⟩
      have g4 := g3.trans b4
      have s4 := Nat.le_trans s3 b4.size
      go_wp2_with fail
      refine (minto.text_any (w.heap.size + 1) (w.heap.size + 1 + 1 + 1) _ _ 15 _ l _ _ _ r4 ⟨by omega, by omega⟩ rfl hl).mono ?_
      rintro r w5 ⟨rfl, b5, k5, r5⟩
      have g5 := g4.trans b5
      have s5 := Nat.le_trans s4 b5.size
      go_wp2_with fail
      refine (minto.ver_any (w.heap.size + 1) (w.heap.size + 1 + 1 + 1) _ _ 16 _ l _ _ _ r5 ⟨by omega, by omega⟩ rfl hl).mono ?_
      rintro r w6 ⟨rfl, b6, k6, r6⟩
      have g6 := g5.trans b6
      have s6 := Nat.le_trans s5 b6.size
      go_wp2_with fail
      refine (minto.ver_any (w.heap.size + 1) (w.heap.size + 1 + 1 + 1) _ _ 17 _ l _ _ _ r6 ⟨by omega, by omega⟩ rfl hl).mono ?_
      rintro r w7 ⟨rfl, b7, k7, r7⟩
      have g7 := g6.trans b7
      have s7 := Nat.le_trans s6 b7.size
      go_wp2_with fail
      refine (minto.op_any (w.heap.size + 1) (w.heap.size + 1 + 1 + 1) _ _ 18 _ l _ _ _ r7 ⟨by omega, by omega⟩ s7 rfl rfl rfl rfl rfl hl).mono ?_
      rintro r w8 ⟨co, q6, -, rfl, b8, k8, r8⟩
      have g8 := g7.trans b8
      have s8 := Nat.le_trans s7 b8.size
      go_wp2_with fail
      refine (lofE_any _).mono ?_
      rintro r x8 ⟨rfl, rfl⟩
      have al8 := (Below.refl w8.heap.size w8).alloc (Nat.le_refl _) (.cells #[.func (.func 31) #[] #[]] 50)
      have rr8 := r8.quiet al8
      have kf8 := Blk.new w8 [.func (.func 31) #[] #[]] 50
      go_wp2_with fail
      refine (minto.ents_any (w.heap.size + 1) (w.heap.size + 1 + 1 + 1) _ _ 23 w8.heap.size _ l _ _ _ rr8 ⟨by omega, by omega⟩ (Nat.le_trans s8 al8.size) rfl hl (fun p w1 hb hr hp => mlist.lst_ent _ l p _ w1 hr hp hl ((kf8.below hb kf8.lt).cell rfl))).mono ?_
      rintro r w9 ⟨cs8, q7, hcs8, rfl, b9, k9, r9⟩
      obtain ⟨u0, rfl⟩ : ∃ u, cs8 = [u] := List.length_eq_one_iff.1 hcs8
      have g9 := (g8.trans (al8.mono (by omega))).trans b9
      have s9 := Nat.le_trans (Nat.le_trans s8 al8.size) b9.size
      have q6 := (q6.keep (Kept.ofBelow al8)).keep k9
      go_wp2_with fail
      refine (lofMem_any _).mono ?_
      rintro r x9 ⟨rfl, rfl⟩
      have al9 := (Below.refl w9.heap.size w9).alloc (Nat.le_refl _) (.cells #[.func (.func 67) #[] #[]] 120)
      have rr9 := r9.quiet al9
      have kf9 := Blk.new w9 [.func (.func 67) #[] #[]] 120
      go_wp2_with fail
      refine (minto.mems_any (w.heap.size + 1) (w.heap.size + 1 + 1 + 1) _ _ 24 w9.heap.size _ l _ _ _ rr9 ⟨by omega, by omega⟩ (Nat.le_trans s9 al9.size) rfl hl (fun p w1 hb hr hp => mlist.lst_mem _ l p _ w1 hr hp hl ((kf9.below hb kf9.lt).cell rfl))).mono ?_
      rintro r w10 ⟨cs9, q8, hcs9, rfl, b10, k10, r10⟩
      obtain ⟨u1, rfl⟩ : ∃ u, cs9 = [u] := List.length_eq_one_iff.1 hcs9
      have g10 := (g9.trans (al9.mono (by omega))).trans b10
      have s10 := Nat.le_trans (Nat.le_trans s9 al9.size) b10.size
      have q6 := (q6.keep (Kept.ofBelow al9)).keep k10
      have q7 := (q7.keep (Kept.ofBelow al9)).keep k10
      go_wp2_with fail
      refine (lofVw_any _).mono ?_
      rintro r x10 ⟨rfl, rfl⟩
      have al10 := (Below.refl w10.heap.size w10).alloc (Nat.le_refl _) (.cells #[.func (.func 70) #[] #[]] 126)
      have rr10 := r10.quiet al10
      have kf10 := Blk.new w10 [.func (.func 70) #[] #[]] 126
      go_wp2_with fail
      refine (minto.vws_any (w.heap.size + 1) (w.heap.size + 1 + 1 + 1) _ _ 25 w10.heap.size _ l _ _ _ rr10 ⟨by omega, by omega⟩ (Nat.le_trans s10 al10.size) rfl hl (fun p w1 hb hr hp => mlist.lst_vw _ l p _ w1 hr hp hl ((kf10.below hb kf10.lt).cell rfl))).mono ?_
      rintro r w11 ⟨cs10, q9, hcs10, rfl, b11, k11, r11⟩
      obtain ⟨u2, rfl⟩ : ∃ u, cs10 = [u] := List.length_eq_one_iff.1 hcs10
      have g11 := (g10.trans (al10.mono (by omega))).trans b11
      have s11 := Nat.le_trans (Nat.le_trans s10 al10.size) b11.size
      have q6 := (q6.keep (Kept.ofBelow al10)).keep k11
      have q7 := (q7.keep (Kept.ofBelow al10)).keep k11
      have q8 := (q8.keep (Kept.ofBelow al10)).keep k11
      go_wp2_with fail
      refine (minto.img_any (w.heap.size + 1) (w.heap.size + 1 + 1 + 1) _ _ 26 _ l _ _ _ r11 ⟨by omega, by omega⟩ s11 rfl rfl rfl rfl rfl hl).mono ?_
      rintro r w12 ⟨ci, q10, -, rfl, b12, k12, r12⟩
      have g12 := g11.trans b12
      have s12 := Nat.le_trans s11 b12.size
      have q6 := q6.keep k12
      have q7 := q7.keep k12
      have q8 := q8.keep k12
      have q9 := q9.keep k12
      obtain ⟨p, ok, es, bk1, bk2, hes, hp, hE⟩ := r12.fin
      have hend := endMs l co ci u0 u1 u2 w12 (w.heap.size + 1 + 1 + 1) q6 q7 q8 q9 q10
      rw [hE] at hend
      clear hE q6 q7 q8 q9 q10
      obtain ⟨c0, c1, c2, c3, c4, c5, c6, c7, c8, c9, c10, c11, c12, c13, c14, c15, c16, d16, c17, d17, c18, c19, c20, c21, c22, c23, d23, e23, c24, d24, e24, c25, d25, e25, c26, d26, c27, d27, c28, c29, d29, e29, c30, d30, e30, rfl⟩ := invMs hes
      clear hes
      have z1 := z0.below g12 (Nat.lt_succ_self _)
      have gz := gw.trans (g12.mono (Nat.le_succ _))
      have rc1 := bk1.cell (j := 1) rfl
      have rc2 := bk1.cell (j := 2) rfl
      cases ok
      · have hend : getMs l 0 = none := hend
        have HG : Hid (getMsg l = none) := Lib.hid (by unfold getMsg; simp [hend])
        clear hend
        go_upto_region 20 with fail
        refine wp_region_lit ?_
        refine wpList_val rfl (packA zMs) (by go_simp; rfl) ?_
        refine wpList_store_mid rfl 64 _ _ rfl w.heap.size 0 zMs.toArray (by rfl) (by rfl) (z1.there 31 rfl) (by kernel_rfl) (all_oneCell_toArray (by simp [zMs, Value.oneCell'])) ?_
        have zz := z1.setCells zMs rfl
        have gg := below_setCells (Nat.le_refl w.heap.size) zMs 0 _ gz
        generalize World.setCells _ _ _ _ = wz at zz gg ⊢
        go_wp2_with fail
        refine bodyPost_ret (v := .tuple #[packA zMs, .bool false]) ?_ rfl (GotM.none HG.out gg)
        exact big_res2 (t := 2) (u := 3) (by rfl) _ _ _ w.heap.size (by rfl) zMs _ zz Try.underlying64 rfl (by kernel_rfl)
      · obtain ⟨x, hx, hrp⟩ : ∃ x, getMs l 0 = some (x, p) ∧ rMs.rep w12 (fun b => w.heap.size + 1 + 1 + 1 ≤ b) x [.int .i64 c0, .int .i64 c1, .int .i64 c2, .int .i64 c3, .int .i64 c4, .int .i64 c5, .int .i64 c6, .int .i64 c7, .int .i64 c8, .int .i64 c9, .int .i64 c10, .int .i64 c11, .bool c12, .bool c13, .string c14, .string c15, .complex .f64 c16 d16, .complex .f64 c17 d17, .int .i64 c18, .string c19, .string c20, .string c21, .bool c22, .slice c23 d23 e23, .slice c24 d24 e24, .slice c25 d25 e25, .complex .f64 c26 d26, .complex .f64 c27 d27, .int .i64 c28, .slice c29 d29 e29, .slice c30 d30 e30] := hend
        by_cases hpl : p = l.length
        · subst hpl
          have HG : Hid (getMsg l = some x) := Lib.hid (by unfold getMsg; rw [hx]; simp)
          have HR2 := Lib.hid hrp
          have ne0 : ¬ w.heap.size + 1 + 1 + 1 ≤ w.heap.size := by omega
          clear hx hrp
          go_upto_region 21 with fail
          refine wp_region_lit ?_
          refine wpList_load_mid rfl 64 _ (by rfl) (w.heap.size + 1) 0 (by rfl) [.int .i64 c0, .int .i64 c1, .int .i64 c2, .int .i64 c3, .int .i64 c4, .int .i64 c5, .int .i64 c6, .int .i64 c7, .int .i64 c8, .int .i64 c9, .int .i64 c10, .int .i64 c11, .bool c12, .bool c13, .string c14, .string c15, .complex .f64 c16 d16, .complex .f64 c17 d17, .int .i64 c18, .string c19, .string c20, .string c21, .bool c22, .slice c23 d23 e23, .slice c24 d24 e24, .slice c25 d25 e25, .complex .f64 c26 d26, .complex .f64 c27 d27, .int .i64 c28, .slice c29 d29 e29, .slice c30 d30 e30] _ bk2.range Try.underlying64 rfl (by kernel_rfl) ?_
          refine wpList_store_mid rfl 64 _ _ rfl w.heap.size 0 #[.int .i64 c0, .int .i64 c1, .int .i64 c2, .int .i64 c3, .int .i64 c4, .int .i64 c5, .int .i64 c6, .int .i64 c7, .int .i64 c8, .int .i64 c9, .int .i64 c10, .int .i64 c11, .bool c12, .bool c13, .string c14, .string c15, .complex .f64 c16 d16, .complex .f64 c17 d17, .int .i64 c18, .string c19, .string c20, .string c21, .bool c22, .slice c23 d23 e23, .slice c24 d24 e24, .slice c25 d25 e25, .complex .f64 c26 d26, .complex .f64 c27 d27, .int .i64 c28, .slice c29 d29 e29, .slice c30 d30 e30] (by rfl) (by rfl) (z1.there 31 rfl) (by kernel_rfl) (all_oneCell_toArray (cs := [.int .i64 c0, .int .i64 c1, .int .i64 c2, .int .i64 c3, .int .i64 c4, .int .i64 c5, .int .i64 c6, .int .i64 c7, .int .i64 c8, .int .i64 c9, .int .i64 c10, .int .i64 c11, .bool c12, .bool c13, .string c14, .string c15, .complex .f64 c16 d16, .complex .f64 c17 d17, .int .i64 c18, .string c19, .string c20, .string c21, .bool c22, .slice c23 d23 e23, .slice c24 d24 e24, .slice c25 d25 e25, .complex .f64 c26 d26, .complex .f64 c27 d27, .int .i64 c28, .slice c29 d29 e29, .slice c30 d30 e30]) (by simp [Value.oneCell'])) ?_
          have zz := z1.setCells [.int .i64 c0, .int .i64 c1, .int .i64 c2, .int .i64 c3, .int .i64 c4, .int .i64 c5, .int .i64 c6, .int .i64 c7, .int .i64 c8, .int .i64 c9, .int .i64 c10, .int .i64 c11, .bool c12, .bool c13, .string c14, .string c15, .complex .f64 c16 d16, .complex .f64 c17 d17, .int .i64 c18, .string c19, .string c20, .string c21, .bool c22, .slice c23 d23 e23, .slice c24 d24 e24, .slice c25 d25 e25, .complex .f64 c26 d26, .complex .f64 c27 d27, .int .i64 c28, .slice c29 d29 e29, .slice c30 d30 e30] rfl
          have gg := below_setCells (Nat.le_refl w.heap.size) [.int .i64 c0, .int .i64 c1, .int .i64 c2, .int .i64 c3, .int .i64 c4, .int .i64 c5, .int .i64 c6, .int .i64 c7, .int .i64 c8, .int .i64 c9, .int .i64 c10, .int .i64 c11, .bool c12, .bool c13, .string c14, .string c15, .complex .f64 c16 d16, .complex .f64 c17 d17, .int .i64 c18, .string c19, .string c20, .string c21, .bool c22, .slice c23 d23 e23, .slice c24 d24 e24, .slice c25 d25 e25, .complex .f64 c26 d26, .complex .f64 c27 d27, .int .i64 c28, .slice c29 d29 e29, .slice c30 d30 e30] 0 _ gz
          have rr := rMs.keep (kept_setCells ne0 [.int .i64 c0, .int .i64 c1, .int .i64 c2, .int .i64 c3, .int .i64 c4, .int .i64 c5, .int .i64 c6, .int .i64 c7, .int .i64 c8, .int .i64 c9, .int .i64 c10, .int .i64 c11, .bool c12, .bool c13, .string c14, .string c15, .complex .f64 c16 d16, .complex .f64 c17 d17, .int .i64 c18, .string c19, .string c20, .string c21, .bool c22, .slice c23 d23 e23, .slice c24 d24 e24, .slice c25 d25 e25, .complex .f64 c26 d26, .complex .f64 c27 d27, .int .i64 c28, .slice c29 d29 e29, .slice c30 d30 e30] 0 _ (Kept.refl _ _)) HR2.out
          generalize World.setCells _ _ _ _ = wz at zz gg rr ⊢
          go_wp2_with fail
          refine bodyPost_ret (v := .tuple #[packA [.int .i64 c0, .int .i64 c1, .int .i64 c2, .int .i64 c3, .int .i64 c4, .int .i64 c5, .int .i64 c6, .int .i64 c7, .int .i64 c8, .int .i64 c9, .int .i64 c10, .int .i64 c11, .bool c12, .bool c13, .string c14, .string c15, .complex .f64 c16 d16, .complex .f64 c17 d17, .int .i64 c18, .string c19, .string c20, .string c21, .bool c22, .slice c23 d23 e23, .slice c24 d24 e24, .slice c25 d25 e25, .complex .f64 c26 d26, .complex .f64 c27 d27, .int .i64 c28, .slice c29 d29 e29, .slice c30 d30 e30], .bool true]) ?_ rfl (GotM.some HG.out gg (rMs.mono (fun b hS _ => by have hS : w.heap.size + 1 + 1 + 1 ≤ b := hS; omega) rr) rfl)
          exact big_res2 (t := 2) (u := 3) (by rfl) _ _ _ w.heap.size (by rfl) [.int .i64 c0, .int .i64 c1, .int .i64 c2, .int .i64 c3, .int .i64 c4, .int .i64 c5, .int .i64 c6, .int .i64 c7, .int .i64 c8, .int .i64 c9, .int .i64 c10, .int .i64 c11, .bool c12, .bool c13, .string c14, .string c15, .complex .f64 c16 d16, .complex .f64 c17 d17, .int .i64 c18, .string c19, .string c20, .string c21, .bool c22, .slice c23 d23 e23, .slice c24 d24 e24, .slice c25 d25 e25, .complex .f64 c26 d26, .complex .f64 c27 d27, .int .i64 c28, .slice c29 d29 e29, .slice c30 d30 e30] _ zz Try.underlying64 rfl (by kernel_rfl)
        · have hne : (p : Int) ≠ (l.length : Int) := by omega
          have HG : Hid (getMsg l = none) := Lib.hid (by unfold getMsg; rw [hx]; simp [hpl])
          clear hx hrp
          go_upto_region 20 with fail
          refine wp_region_lit ?_
          refine wpList_val rfl (packA zMs) (by go_simp; rfl) ?_
          refine wpList_store_mid rfl 64 _ _ rfl w.heap.size 0 zMs.toArray (by rfl) (by rfl) (z1.there 31 rfl) (by kernel_rfl) (all_oneCell_toArray (by simp [zMs, Value.oneCell'])) ?_
          have zz := z1.setCells zMs rfl
          have gg := below_setCells (Nat.le_refl w.heap.size) zMs 0 _ gz
          generalize World.setCells _ _ _ _ = wz at zz gg ⊢
          go_wp2_with fail
          refine bodyPost_ret (v := .tuple #[packA zMs, .bool false]) ?_ rfl (GotM.none HG.out gg)
          exact big_res2 (t := 2) (u := 3) (by rfl) _ _ _ w.heap.size (by rfl) zMs _ zz Try.underlying64 rfl (by kernel_rfl)
end Go.Proofs.Ytolgbnpginifkaa.mget
