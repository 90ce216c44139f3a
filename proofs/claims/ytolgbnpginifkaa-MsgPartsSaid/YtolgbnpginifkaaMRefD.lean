/- The contracts of lockgateref06.Msg and Same. -/
import Derived.Test.YtolgbnpginifkaaMRefC
import Derived.Test.YtolgbnpginifkaaMGetM
namespace Go.Proofs.Ytolgbnpginifkaa.mref
open Go.ChangeShapes Go.WideShapes Go.ChangeAt Go.RowKit codec st own put ref get blk rep ent msgd entget entref minto
set_option linter.unusedVariables false

theorem bit7_any (b : Bool) (w : World) : Calls Try.prog 73 #[.bool b] w fun e w' => ∃ i : Int, i = ((if b then (1 : UInt8) else 0).toNat : Int) ∧ e = .returned (.int .u8 i) ∧ w = w' :=
  (bit6_any b w).mono fun e w' ⟨h1, h2⟩ => ⟨_, by cases b <;> rfl, h1, h2⟩
theorem two_bits (w : World) (a b : Bool) (i j : Int) (hi : i = ((if a then (1 : UInt8) else 0).toNat : Int)) (hj : j = ((if b then (1 : UInt8) else 0).toNat : Int)) (T : TypeId) :
    Rd (w.alloc (.cells #[.int .u8 i, .int .u8 j] T)) (.slice (some ⟨w.heap.size, 0, none⟩) 2 2) (putB a ++ putB b) :=
  (Has.cells w (putB a ++ putB b) _ T 2 (by rw [hi, hj]; rfl) rfl (by simp [maxLen])).rd
theorem ns12 {l : List Int} {n0 n1 n2 n3 n4 n5 n6 n7 n8 n9 n10 n11 : Int} (h : l = [n0, n1, n2, n3, n4, n5, n6, n7, n8, n9, n10, n11]) (hI : ∀ y ∈ l, In y) : ∀ y ∈ [n0, n1, n2, n3, n4, n5, n6, n7, n8, n9, n10, n11], In y := by
  subst h; exact hI

set_option maxRecDepth 100000 in
set_option maxHeartbeats 20000000 in
theorem msg6_any (x : MsD) (cs : List Value) (w : World) (S : Nat → Prop) (h : mget.rMs.rep w S x cs) (hP : PMs x) (hby : (putMs x).length ≤ 1000000) :
    Calls Try.prog 38 #[.agg cs.toArray] w (PutsTo w (.slice none 0 0) (putMs x)) := by
  obtain ⟨i0, hi, hz0, hz1, hz2⟩ := info_parts info_u8
  have HI := Lib.hid hi
  obtain ⟨n0, n1, n2, n3, n4, n5, n6, n7, n8, n9, n10, n11, u0, u1, u2, u3, u4, hns, rfl, h0, h1, h2, h3, h4⟩ := h
  have H0 := Lib.hid h0
  obtain ⟨u0', rows0, e0, hrow0, hl0, a0, cap0, rfl, hd0⟩ := h0
  simp only [List.cons.injEq, and_true] at e0
  subst e0
  clear hrow0 hl0 hd0
  have H1 := Lib.hid h1
  obtain ⟨u1', rows1, e1, hrow1, hl1, a1, cap1, rfl, hd1⟩ := h1
  simp only [List.cons.injEq, and_true] at e1
  subst e1
  clear hrow1 hl1 hd1
  have H2 := Lib.hid h2
  obtain ⟨u2', rows2, e2, hrow2, hl2, a2, cap2, rfl, hd2⟩ := h2
  simp only [List.cons.injEq, and_true] at e2
  subst e2
  clear hrow2 hl2 hd2
  have H3 := Lib.hid h3
  obtain ⟨u3', rows3, e3, hrow3, hl3, a3, cap3, rfl, hd3⟩ := h3
  simp only [List.cons.injEq, and_true] at e3
  subst e3
  clear hrow3 hl3 hd3
  have H4 := Lib.hid h4
  obtain ⟨u4', rows4, e4, hrow4, hl4, a4, cap4, rfl, hd4⟩ := h4
  simp only [List.cons.injEq, and_true] at e4
  subst e4
  clear hrow4 hl4 hd4
  clear hi
  obtain ⟨q0, -, -, q3, q4, q5, q6, q7, q8, q9, q10, q11⟩ := hP
  have NS := Lib.hid (ns12 hns q0.2)
  have g0 := get.fit_bounds q5.1
  have g1 := get.fit_bounds q5.2
  have g2 := get.fit_bounds q6.1
  have g3 := get.fit_bounds q6.2
  have T0 := Lib.hid (flt.toInt_F x.ver.1 g0.1 (by omega))
  have T1 := Lib.hid (flt.toInt_F x.ver.2 g1.1 (by omega))
  have T2 := Lib.hid (flt.toInt_F x.floor.1 g2.1 (by omega))
  have T3 := Lib.hid (flt.toInt_F x.floor.2 g3.1 (by omega))
  have Q7 := Lib.hid q7
  have Q8 := Lib.hid q8.2
  have Q9 := Lib.hid q9.2
  have Q10 := Lib.hid q10.2
  have Q11 := Lib.hid q11
  have hl8 := q8.1
  have hl9 := q9.1
  have hl10 := q10.1
  clear q0 q5 q6 q7 q8 q9 q10 q11
  have hput : putMs x = nums [n0, n1, n2, n3, n4, n5, n6, n7, n8, n9, n10, n11] ++ (putB x.has ++ putB x.fresh) ++ putT x.key ++ putT x.val ++ putV2 x.ver ++ putV2 x.floor ++ putO x.op ++ putL putE x.ents ++ putL putMem x.chain ++ putL putVw x.views ++ putIm x.img := by
    unfold putMs
    rw [hns]
    simp only [List.append_assoc]
  have HPUT := Lib.hid hput
  have hlx := hby
  rw [hput, List.length_append, List.length_append, List.length_append, List.length_append, List.length_append, List.length_append, List.length_append, List.length_append, List.length_append, List.length_append, List.length_append] at hlx
  clear hput hns hby
  have kb := Blk.new w [.int .i64 n0, .int .i64 n1, .int .i64 n2, .int .i64 n3, .int .i64 n4, .int .i64 n5, .int .i64 n6, .int .i64 n7, .int .i64 n8, .int .i64 n9, .int .i64 n10, .int .i64 n11, .bool x.has, .bool x.fresh, .string ⟨x.key.toArray⟩, .string ⟨x.val.toArray⟩, .complex .f64 (flt.F x.ver.1) (flt.F x.ver.2), .complex .f64 (flt.F x.floor.1) (flt.F x.floor.2), .int .i64 x.op.kind, .string ⟨x.op.key.toArray⟩, .string ⟨x.op.val.toArray⟩, .string ⟨x.op.old.toArray⟩, .bool x.op.has, .slice a0 x.ents.length cap0, .slice a1 x.chain.length cap1, .slice a2 x.views.length cap2, .complex .f64 (flt.F x.img.floor.1) (flt.F x.img.floor.2), .complex .f64 (flt.F x.img.last.1) (flt.F x.img.last.2), .int .i64 x.img.gen, .slice a3 x.img.log.length cap3, .slice a4 x.img.seen.length cap4] 64
  have hw0 : Below w.heap.size w (w.alloc (.cells #[.int .i64 n0, .int .i64 n1, .int .i64 n2, .int .i64 n3, .int .i64 n4, .int .i64 n5, .int .i64 n6, .int .i64 n7, .int .i64 n8, .int .i64 n9, .int .i64 n10, .int .i64 n11, .bool x.has, .bool x.fresh, .string ⟨x.key.toArray⟩, .string ⟨x.val.toArray⟩, .complex .f64 (flt.F x.ver.1) (flt.F x.ver.2), .complex .f64 (flt.F x.floor.1) (flt.F x.floor.2), .int .i64 x.op.kind, .string ⟨x.op.key.toArray⟩, .string ⟨x.op.val.toArray⟩, .string ⟨x.op.old.toArray⟩, .bool x.op.has, .slice a0 x.ents.length cap0, .slice a1 x.chain.length cap1, .slice a2 x.views.length cap2, .complex .f64 (flt.F x.img.floor.1) (flt.F x.img.floor.2), .complex .f64 (flt.F x.img.last.1) (flt.F x.img.last.2), .int .i64 x.img.gen, .slice a3 x.img.log.length cap3, .slice a4 x.img.seen.length cap4] 64)) := (Below.refl _ _).alloc (Nat.le_refl _) _
  have hbx : w.heap.size < (w.alloc (.cells #[.int .i64 n0, .int .i64 n1, .int .i64 n2, .int .i64 n3, .int .i64 n4, .int .i64 n5, .int .i64 n6, .int .i64 n7, .int .i64 n8, .int .i64 n9, .int .i64 n10, .int .i64 n11, .bool x.has, .bool x.fresh, .string ⟨x.key.toArray⟩, .string ⟨x.val.toArray⟩, .complex .f64 (flt.F x.ver.1) (flt.F x.ver.2), .complex .f64 (flt.F x.floor.1) (flt.F x.floor.2), .int .i64 x.op.kind, .string ⟨x.op.key.toArray⟩, .string ⟨x.op.val.toArray⟩, .string ⟨x.op.old.toArray⟩, .bool x.op.has, .slice a0 x.ents.length cap0, .slice a1 x.chain.length cap1, .slice a2 x.views.length cap2, .complex .f64 (flt.F x.img.floor.1) (flt.F x.img.floor.2), .complex .f64 (flt.F x.img.last.1) (flt.F x.img.last.2), .int .i64 x.img.gen, .slice a3 x.img.log.length cap3, .slice a4 x.img.seen.length cap4] 64)).heap.size := by simp
  have bx0 := kb.cell (j := 0) rfl
  have bx1 := kb.cell (j := 1) rfl
  have bx2 := kb.cell (j := 2) rfl
  have bx3 := kb.cell (j := 3) rfl
  have bx4 := kb.cell (j := 4) rfl
  have bx5 := kb.cell (j := 5) rfl
  have bx6 := kb.cell (j := 6) rfl
  have bx7 := kb.cell (j := 7) rfl
  have bx8 := kb.cell (j := 8) rfl
  have bx9 := kb.cell (j := 9) rfl
  have bx10 := kb.cell (j := 10) rfl
  have bx11 := kb.cell (j := 11) rfl
  have bx12 := kb.cell (j := 12) rfl
  have bx13 := kb.cell (j := 13) rfl
  have bx14 := kb.cell (j := 14) rfl
  have bx15 := kb.cell (j := 15) rfl
  have bx16 := kb.cell (j := 16) rfl
  have bx17 := kb.cell (j := 17) rfl
  have bx18 := kb.cell (j := 18) rfl
  have bx19 := kb.cell (j := 19) rfl
  have bx20 := kb.cell (j := 20) rfl
  have bx21 := kb.cell (j := 21) rfl
  have bx22 := kb.cell (j := 22) rfl
  have bx23 := kb.cell (j := 23) rfl
  have bx24 := kb.cell (j := 24) rfl
  have bx25 := kb.cell (j := 25) rfl
  have bx26 := kb.cell (j := 26) rfl
  have bx27 := kb.cell (j := 27) rfl
  have bx28 := kb.cell (j := 28) rfl
  have bx29 := kb.cell (j := 29) rfl
  have bx30 := kb.cell (j := 30) rfl
  go_enter Try.func38, Try.ntmps38
  go_wp2_with fail
  have al1 := (Below.refl (w.alloc (.cells #[.int .i64 n0, .int .i64 n1, .int .i64 n2, .int .i64 n3, .int .i64 n4, .int .i64 n5, .int .i64 n6, .int .i64 n7, .int .i64 n8, .int .i64 n9, .int .i64 n10, .int .i64 n11, .bool x.has, .bool x.fresh, .string ⟨x.key.toArray⟩, .string ⟨x.val.toArray⟩, .complex .f64 (flt.F x.ver.1) (flt.F x.ver.2), .complex .f64 (flt.F x.floor.1) (flt.F x.floor.2), .int .i64 x.op.kind, .string ⟨x.op.key.toArray⟩, .string ⟨x.op.val.toArray⟩, .string ⟨x.op.old.toArray⟩, .bool x.op.has, .slice a0 x.ents.length cap0, .slice a1 x.chain.length cap1, .slice a2 x.views.length cap2, .complex .f64 (flt.F x.img.floor.1) (flt.F x.img.floor.2), .complex .f64 (flt.F x.img.last.1) (flt.F x.img.last.2), .int .i64 x.img.gen, .slice a3 x.img.log.length cap3, .slice a4 x.img.seen.length cap4] 64)).heap.size (w.alloc (.cells #[.int .i64 n0, .int .i64 n1, .int .i64 n2, .int .i64 n3, .int .i64 n4, .int .i64 n5, .int .i64 n6, .int .i64 n7, .int .i64 n8, .int .i64 n9, .int .i64 n10, .int .i64 n11, .bool x.has, .bool x.fresh, .string ⟨x.key.toArray⟩, .string ⟨x.val.toArray⟩, .complex .f64 (flt.F x.ver.1) (flt.F x.ver.2), .complex .f64 (flt.F x.floor.1) (flt.F x.floor.2), .int .i64 x.op.kind, .string ⟨x.op.key.toArray⟩, .string ⟨x.op.val.toArray⟩, .string ⟨x.op.old.toArray⟩, .bool x.op.has, .slice a0 x.ents.length cap0, .slice a1 x.chain.length cap1, .slice a2 x.views.length cap2, .complex .f64 (flt.F x.img.floor.1) (flt.F x.img.floor.2), .complex .f64 (flt.F x.img.last.1) (flt.F x.img.last.2), .int .i64 x.img.gen, .slice a3 x.img.log.length cap3, .slice a4 x.img.seen.length cap4] 64))).alloc (Nat.le_refl _) (.cells #[.int .i64 n0, .int .i64 n1, .int .i64 n2, .int .i64 n3, .int .i64 n4, .int .i64 n5, .int .i64 n6, .int .i64 n7, .int .i64 n8, .int .i64 n9, .int .i64 n10, .int .i64 n11] 3)
  have kl1 := Blk.new (w.alloc (.cells #[.int .i64 n0, .int .i64 n1, .int .i64 n2, .int .i64 n3, .int .i64 n4, .int .i64 n5, .int .i64 n6, .int .i64 n7, .int .i64 n8, .int .i64 n9, .int .i64 n10, .int .i64 n11, .bool x.has, .bool x.fresh, .string ⟨x.key.toArray⟩, .string ⟨x.val.toArray⟩, .complex .f64 (flt.F x.ver.1) (flt.F x.ver.2), .complex .f64 (flt.F x.floor.1) (flt.F x.floor.2), .int .i64 x.op.kind, .string ⟨x.op.key.toArray⟩, .string ⟨x.op.val.toArray⟩, .string ⟨x.op.old.toArray⟩, .bool x.op.has, .slice a0 x.ents.length cap0, .slice a1 x.chain.length cap1, .slice a2 x.views.length cap2, .complex .f64 (flt.F x.img.floor.1) (flt.F x.img.floor.2), .complex .f64 (flt.F x.img.last.1) (flt.F x.img.last.2), .int .i64 x.img.gen, .slice a3 x.img.log.length cap3, .slice a4 x.img.seen.length cap4] 64)) [.int .i64 n0, .int .i64 n1, .int .i64 n2, .int .i64 n3, .int .i64 n4, .int .i64 n5, .int .i64 n6, .int .i64 n7, .int .i64 n8, .int .i64 n9, .int .i64 n10, .int .i64 n11] 3
  have hsz : (w.alloc (.cells #[.int .i64 n0, .int .i64 n1, .int .i64 n2, .int .i64 n3, .int .i64 n4, .int .i64 n5, .int .i64 n6, .int .i64 n7, .int .i64 n8, .int .i64 n9, .int .i64 n10, .int .i64 n11, .bool x.has, .bool x.fresh, .string ⟨x.key.toArray⟩, .string ⟨x.val.toArray⟩, .complex .f64 (flt.F x.ver.1) (flt.F x.ver.2), .complex .f64 (flt.F x.floor.1) (flt.F x.floor.2), .int .i64 x.op.kind, .string ⟨x.op.key.toArray⟩, .string ⟨x.op.val.toArray⟩, .string ⟨x.op.old.toArray⟩, .bool x.op.has, .slice a0 x.ents.length cap0, .slice a1 x.chain.length cap1, .slice a2 x.views.length cap2, .complex .f64 (flt.F x.img.floor.1) (flt.F x.img.floor.2), .complex .f64 (flt.F x.img.last.1) (flt.F x.img.last.2), .int .i64 x.img.gen, .slice a3 x.img.log.length cap3, .slice a4 x.img.seen.length cap4] 64)).heap.size = w.heap.size + 1 := by simp
  generalize (w.alloc (.cells #[.int .i64 n0, .int .i64 n1, .int .i64 n2, .int .i64 n3, .int .i64 n4, .int .i64 n5, .int .i64 n6, .int .i64 n7, .int .i64 n8, .int .i64 n9, .int .i64 n10, .int .i64 n11, .bool x.has, .bool x.fresh, .string ⟨x.key.toArray⟩, .string ⟨x.val.toArray⟩, .complex .f64 (flt.F x.ver.1) (flt.F x.ver.2), .complex .f64 (flt.F x.floor.1) (flt.F x.floor.2), .int .i64 x.op.kind, .string ⟨x.op.key.toArray⟩, .string ⟨x.op.val.toArray⟩, .string ⟨x.op.old.toArray⟩, .bool x.op.has, .slice a0 x.ents.length cap0, .slice a1 x.chain.length cap1, .slice a2 x.views.length cap2, .complex .f64 (flt.F x.img.floor.1) (flt.F x.img.floor.2), .complex .f64 (flt.F x.img.last.1) (flt.F x.img.last.2), .int .i64 x.img.gen, .slice a3 x.img.log.length cap3, .slice a4 x.img.seen.length cap4] 64)) = wb at kb hw0 hbx al1 kl1 hsz bx0 bx1 bx2 bx3 bx4 bx5 bx6 bx7 bx8 bx9 bx10 bx11 bx12 bx13 bx14 bx15 bx16 bx17 bx18 bx19 bx20 bx21 bx22 bx23 bx24 bx25 bx26 bx27 bx28 bx29 bx30 ⊢
  rw [hsz] at kl1
  clear hsz
  refine (numbers_any (w.heap.size + 1) 12 [n0, n1, n2, n3, n4, n5, n6, n7, n8, n9, n10, n11] _ kl1 rfl (by omega) NS.out).mono ?_
  rintro r w1 ⟨v1, rfl, p1⟩
  have hr1 := later al1 p1
  have hb1 := Puts.below0 hr1
  clear kl1
  go_wp2_with fail
  refine mix.wp_region_mix (fun y => Below wb.heap.size wb y) mix.noOper [([0, 1, 2, 4, 5], 3), ([], 6), ([], 7), ([], 8)] [9] (by kernel_rfl) (by kernel_rfl) (fun _ _ _ d _ h => by cases d <;> exact h) ?_ ?_
  · exact hb1.drew
  rw [mix.wpMix_cons]
  simp only [List.map_cons, List.map_nil, List.getD_cons_succ, List.getD_cons_zero]
  refine BigFrame.wpQuiet_want rfl (fun K hK => ?_)
  refine entref.quiet_val (v1) (fun x hx => by have hc0 := (hx.cell (p := ⟨w.heap.size, 12, none⟩) hbx).trans bx12; have hc1 := (hx.cell (p := ⟨w.heap.size, 13, none⟩) hbx).trans bx13; go_simp) (hK _ ?_)
  clear hK K
  simp only [Act.put, List.setIfInBounds_toArray, List.set_cons_zero, List.set_cons_succ]
  refine BigFrame.wpQuiet_want rfl (fun K hK => ?_)
  refine entref.quiet_val (.pointer (some ⟨w.heap.size, 12, none⟩)) (fun x hx => by have hc0 := (hx.cell (p := ⟨w.heap.size, 12, none⟩) hbx).trans bx12; have hc1 := (hx.cell (p := ⟨w.heap.size, 13, none⟩) hbx).trans bx13; go_simp) (hK _ ?_)
  clear hK K
  simp only [Act.put, List.setIfInBounds_toArray, List.set_cons_zero, List.set_cons_succ]
  refine BigFrame.wpQuiet_want rfl (fun K hK => ?_)
  refine entref.quiet_val (.bool x.has) (fun x hx => by have hc0 := (hx.cell (p := ⟨w.heap.size, 12, none⟩) hbx).trans bx12; have hc1 := (hx.cell (p := ⟨w.heap.size, 13, none⟩) hbx).trans bx13; go_simp) (hK _ ?_)
  clear hK K
  simp only [Act.put, List.setIfInBounds_toArray, List.set_cons_zero, List.set_cons_succ]
  refine BigFrame.wpQuiet_want rfl (fun K hK => ?_)
  refine entref.quiet_val (.pointer (some ⟨w.heap.size, 13, none⟩)) (fun x hx => by have hc0 := (hx.cell (p := ⟨w.heap.size, 12, none⟩) hbx).trans bx12; have hc1 := (hx.cell (p := ⟨w.heap.size, 13, none⟩) hbx).trans bx13; go_simp) (hK _ ?_)
  clear hK K
  simp only [Act.put, List.setIfInBounds_toArray, List.set_cons_zero, List.set_cons_succ]
  refine BigFrame.wpQuiet_want rfl (fun K hK => ?_)
  refine entref.quiet_val (.bool x.fresh) (fun x hx => by have hc0 := (hx.cell (p := ⟨w.heap.size, 12, none⟩) hbx).trans bx12; have hc1 := (hx.cell (p := ⟨w.heap.size, 13, none⟩) hbx).trans bx13; go_simp) (hK _ ?_)
  clear hK K
  simp only [Act.put, List.setIfInBounds_toArray, List.set_cons_zero, List.set_cons_succ]
  refine wpQuiet_nil ?_
  refine mix.callAt_step (by rfl) (fun K hK => ?_)
  go_simp
  refine (bit7_any x.has _).mono ?_
  rintro r wz ⟨i1, hi1, rfl, rfl⟩
  have HI1 := Lib.hid hi1
  clear hi1
  go_wp2_with fail
  refine ⟨hb1.drew, ?_⟩
  rw [mix.wpMix_cons]
  simp only [List.map_nil, List.getD_cons_succ, List.getD_cons_zero]
  refine wpQuiet_nil ?_
  refine mix.callAt_step (by rfl) (fun K hK => ?_)
  go_simp
  refine (bit7_any x.fresh _).mono ?_
  rintro r wz ⟨i2, hi2, rfl, rfl⟩
  have HI2 := Lib.hid hi2
  clear hi2
  go_wp2_with fail
  refine ⟨hb1.drew, ?_⟩
  rw [mix.wpMix_cons]
  simp only [List.map_nil, List.getD_cons_succ, List.getD_cons_zero]
  refine wpQuiet_nil ?_
  refine mix.callAt_step (by rfl) (fun K hK => ?_)
  go_simp
  have al2 := ((Below.refl w1.heap.size w1).drew).alloc (Nat.le_refl _) (.cells #[.int .u8 i1, .int .u8 i2] 5)
  have hp2 := Puts.over hr1 al2
  have s2 := two_bits w1.drew x.has x.fresh i1 i2 HI1.out HI2.out 5
  refine hK _ _ ⟨Puts.below0 hp2, ?_⟩
  clear hK K
  rw [mix.wpMix_cons]
  simp only [List.map_nil, List.getD_cons_succ, List.getD_cons_zero]
  refine wpQuiet_nil ?_
  refine mix.callAt_step (by rfl) (fun K hK => ?_)
  refine wp_put _ _ _ _ rfl 5 i0 Try.underlying24 HI.out hz0 hz1 hz2 rfl hp2.has _ (putB x.has ++ putB x.fresh) rfl (s2.src Try.underlying24) (by rw [List.length_append] at *; omega) (fun vq3 wq3 hq3 => hK _ _ ⟨Puts.below0 (hp2.trans hq3), ?_⟩)
  clear hK K
  have hr3 := hp2.trans hq3
  have hb3 := Puts.below0 hr3
  rw [mix.wpMix_nil]
  simp only [List.map_cons, List.map_nil, List.getD_cons_succ, List.getD_cons_zero]
  refine BigFrame.wpQuiet_want rfl (fun K hK => ?_)
  refine entref.quiet_val (vq3) (fun x hx => by go_simp) (hK _ ?_)
  clear hK K
  simp only [Act.put, List.setIfInBounds_toArray, List.set_cons_zero, List.set_cons_succ]
  refine wpQuiet_nil ?_
  have x14_q3 := (hb3.cell (p := ⟨w.heap.size, 14, none⟩) hbx).trans bx14
  go_wp2_with fail
  refine (rtext_any ⟨x.key.toArray⟩ _ (tsz2 q3)).mono ?_
  rintro r w4 ⟨v4, rfl, p4⟩
  rw [List.nil_append] at p4
  have hp4 := Puts.over hr3 (Puts.below0 p4)
  have s4 := (show Has w4 v4 (putT x.key) from p4.has).rd
  go_wp2_with (at_builtin; refine wpList_put rfl _ _ _ _ rfl 5 i0 Try.underlying24 HI.out hz0 hz1 hz2 rfl hp4.has _ (putT x.key) rfl (s4.src Try.underlying24) (by simp only [List.length_append] at *; omega) ?_; intro vq5 wq5 hq5; have hr5 := hp4.trans hq5; have hb5 := Puts.below0 hr5; have x15_q5 := (hb5.cell (p := ⟨w.heap.size, 15, none⟩) hbx).trans bx15)
  refine (rtext_any ⟨x.val.toArray⟩ _ (tsz2 q4)).mono ?_
  rintro r w6 ⟨v6, rfl, p6⟩
  rw [List.nil_append] at p6
  have hp6 := Puts.over hr5 (Puts.below0 p6)
  have s6 := (show Has w6 v6 (putT x.val) from p6.has).rd
  go_wp2_with (at_builtin; refine wpList_put rfl _ _ _ _ rfl 5 i0 Try.underlying24 HI.out hz0 hz1 hz2 rfl hp6.has _ (putT x.val) rfl (s6.src Try.underlying24) (by simp only [List.length_append] at *; omega) ?_; intro vq7 wq7 hq7; have hr7 := hp6.trans hq7; have hb7 := Puts.below0 hr7; have x16_q7 := (hb7.cell (p := ⟨w.heap.size, 16, none⟩) hbx).trans bx16)
  refine (entref.ver_any _ _ _ _ _ T0.out T1.out (by omega) (by omega) (by omega) (by omega)).mono ?_
  rintro r w8 ⟨v8, rfl, p8⟩
  have hp8 := Puts.over hr7 (Puts.below0 p8)
  have s8 := (show Has w8 v8 (putV2 x.ver) from p8.has).rd
  go_wp2_with (at_builtin; refine wpList_put rfl _ _ _ _ rfl 5 i0 Try.underlying24 HI.out hz0 hz1 hz2 rfl hp8.has _ (putV2 x.ver) rfl (s8.src Try.underlying24) (by simp only [List.length_append] at *; omega) ?_; intro vq9 wq9 hq9; have hr9 := hp8.trans hq9; have hb9 := Puts.below0 hr9; have x17_q9 := (hb9.cell (p := ⟨w.heap.size, 17, none⟩) hbx).trans bx17)
  refine (entref.ver_any _ _ _ _ _ T2.out T3.out (by omega) (by omega) (by omega) (by omega)).mono ?_
  rintro r w10 ⟨v10, rfl, p10⟩
  have hp10 := Puts.over hr9 (Puts.below0 p10)
  have s10 := (show Has w10 v10 (putV2 x.floor) from p10.has).rd
  go_wp2_with (at_builtin; refine wpList_put rfl _ _ _ _ rfl 5 i0 Try.underlying24 HI.out hz0 hz1 hz2 rfl hp10.has _ (putV2 x.floor) rfl (s10.src Try.underlying24) (by simp only [List.length_append] at *; omega) ?_; intro vq11 wq11 hq11; have hr11 := hp10.trans hq11; have hb11 := Puts.below0 hr11; have x18_q11 := (hb11.cell (p := ⟨w.heap.size, 18, none⟩) hbx).trans bx18; have x19_q11 := (hb11.cell (p := ⟨w.heap.size, 19, none⟩) hbx).trans bx19; have x20_q11 := (hb11.cell (p := ⟨w.heap.size, 20, none⟩) hbx).trans bx20; have x21_q11 := (hb11.cell (p := ⟨w.heap.size, 21, none⟩) hbx).trans bx21; have x22_q11 := (hb11.cell (p := ⟨w.heap.size, 22, none⟩) hbx).trans bx22)
  refine (entref.op_any x.op _ Q7.out.1 Q7.out.2.1 Q7.out.2.2.1 Q7.out.2.2.2).mono ?_
  rintro r w12 ⟨v12, rfl, p12⟩
  have hp12 := Puts.over hr11 (Puts.below0 p12)
  have s12 := (show Has w12 v12 (putO x.op) from p12.has).rd
  go_wp2_with (at_builtin; refine wpList_put rfl _ _ _ _ rfl 5 i0 Try.underlying24 HI.out hz0 hz1 hz2 rfl hp12.has _ (putO x.op) rfl (s12.src Try.underlying24) (by simp only [List.length_append] at *; omega) ?_; intro vq13 wq13 hq13; have hr13 := hp12.trans hq13; have hb13 := Puts.below0 hr13; have x23_q13 := (hb13.cell (p := ⟨w.heap.size, 23, none⟩) hbx).trans bx23)
  refine (entries_any _ x.ents _ S ((list rE).keep (fun b _ hb => (hw0.trans (hb13.mono hw0.size)).block b hb) H0.out) Q8.out hl8 (by omega)).mono ?_
  rintro r w14 ⟨v14, rfl, p14⟩
  have hp14 := Puts.over hr13 (Puts.below0 p14)
  have s14 := (show Has w14 v14 (putL putE x.ents) from p14.has).rd
  go_wp2_with (at_builtin; refine wpList_put rfl _ _ _ _ rfl 5 i0 Try.underlying24 HI.out hz0 hz1 hz2 rfl hp14.has _ (putL putE x.ents) rfl (s14.src Try.underlying24) (by simp only [List.length_append] at *; omega) ?_; intro vq15 wq15 hq15; have hr15 := hp14.trans hq15; have hb15 := Puts.below0 hr15; have x24_q15 := (hb15.cell (p := ⟨w.heap.size, 24, none⟩) hbx).trans bx24)
  refine (members_any _ x.chain _ S ((list rMem).keep (fun b _ hb => (hw0.trans (hb15.mono hw0.size)).block b hb) H1.out) Q9.out hl9 (by omega)).mono ?_
  rintro r w16 ⟨v16, rfl, p16⟩
  have hp16 := Puts.over hr15 (Puts.below0 p16)
  have s16 := (show Has w16 v16 (putL putMem x.chain) from p16.has).rd
  go_wp2_with (at_builtin; refine wpList_put rfl _ _ _ _ rfl 5 i0 Try.underlying24 HI.out hz0 hz1 hz2 rfl hp16.has _ (putL putMem x.chain) rfl (s16.src Try.underlying24) (by simp only [List.length_append] at *; omega) ?_; intro vq17 wq17 hq17; have hr17 := hp16.trans hq17; have hb17 := Puts.below0 hr17; have x25_q17 := (hb17.cell (p := ⟨w.heap.size, 25, none⟩) hbx).trans bx25)
  refine (views_any _ x.views _ S ((list rVw).keep (fun b _ hb => (hw0.trans (hb17.mono hw0.size)).block b hb) H2.out) Q10.out hl10 (by omega)).mono ?_
  rintro r w18 ⟨v18, rfl, p18⟩
  have hp18 := Puts.over hr17 (Puts.below0 p18)
  have s18 := (show Has w18 v18 (putL putVw x.views) from p18.has).rd
  go_wp2_with (at_builtin; refine wpList_put rfl _ _ _ _ rfl 5 i0 Try.underlying24 HI.out hz0 hz1 hz2 rfl hp18.has _ (putL putVw x.views) rfl (s18.src Try.underlying24) (by simp only [List.length_append] at *; omega) ?_; intro vq19 wq19 hq19; have hr19 := hp18.trans hq19; have hb19 := Puts.below0 hr19; have x26_q19 := (hb19.cell (p := ⟨w.heap.size, 26, none⟩) hbx).trans bx26; have x27_q19 := (hb19.cell (p := ⟨w.heap.size, 27, none⟩) hbx).trans bx27; have x28_q19 := (hb19.cell (p := ⟨w.heap.size, 28, none⟩) hbx).trans bx28; have x29_q19 := (hb19.cell (p := ⟨w.heap.size, 29, none⟩) hbx).trans bx29; have x30_q19 := (hb19.cell (p := ⟨w.heap.size, 30, none⟩) hbx).trans bx30)
  refine (image_any x.img _ _ S (rIm.keep (fun b _ hb => (hw0.trans (hb19.mono hw0.size)).block b hb) ⟨_, _, rfl, H3.out, H4.out⟩) Q11.out (by omega)).mono ?_
  rintro r w20 ⟨v20, rfl, p20⟩
  have hp20 := Puts.over hr19 (Puts.below0 p20)
  have s20 := (show Has w20 v20 (putIm x.img) from p20.has).rd
  go_wp2_with (at_builtin; refine wpList_put rfl _ _ _ _ rfl 5 i0 Try.underlying24 HI.out hz0 hz1 hz2 rfl hp20.has _ (putIm x.img) rfl (s20.src Try.underlying24) (by simp only [List.length_append] at *; omega) ?_; intro vq21 wq21 hq21; have hr21 := hp20.trans hq21; have hb21 := Puts.below0 hr21)
  go_ret
  refine ⟨_, rfl, ?_⟩
  rw [HPUT.out]
  exact later hw0 hr21

end Go.Proofs.Ytolgbnpginifkaa.mref
