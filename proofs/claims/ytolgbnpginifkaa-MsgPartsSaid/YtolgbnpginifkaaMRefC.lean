/- The contracts of lockgateref06.Image, Msg and Same. -/
import Derived.Test.YtolgbnpginifkaaMRefB
namespace Go.Proofs.Ytolgbnpginifkaa.mref
open Go.ChangeShapes Go.WideShapes Go.ChangeAt Go.RowKit codec st own put ref get blk rep ent msgd entget entref minto
set_option linter.unusedVariables false

set_option maxRecDepth 100000 in
set_option maxHeartbeats 4000000 in
theorem image_any (x : ImD) (cs : List Value) (w : World) (S : Nat → Prop) (h : rIm.rep w S x cs) (hP : PIm x) (hby : (putIm x).length ≤ 1000000) :
    Calls Try.prog 41 #[.agg cs.toArray] w (PutsTo w (.slice none 0 0) (putIm x)) := by
  obtain ⟨i0, hi, hz0, hz1, hz2⟩ := info_parts info_u8
  have HI := Lib.hid hi
  obtain ⟨u3, u4, rfl, h3, h4⟩ := h
  have H3 := Lib.hid h3
  have H4 := Lib.hid h4
  obtain ⟨u3', rows3, e3, hrow3, hl3, a3, cap3, rfl, hd3⟩ := h3
  simp only [List.cons.injEq, and_true] at e3
  subst e3
  obtain ⟨u4', rows4, e4, hrow4, hl4, a4, cap4, rfl, hd4⟩ := h4
  simp only [List.cons.injEq, and_true] at e4
  subst e4
  clear hi hrow3 hl3 hd3 hrow4 hl4 hd4
  obtain ⟨q0, q1, q2, q3, q4⟩ := hP
  have g0 := get.fit_bounds q0.1
  have g1 := get.fit_bounds q0.2
  have g2 := get.fit_bounds q1.1
  have g3 := get.fit_bounds q1.2
  have T0 := Lib.hid (flt.toInt_F x.floor.1 g0.1 (by omega))
  have T1 := Lib.hid (flt.toInt_F x.floor.2 g1.1 (by omega))
  have T2 := Lib.hid (flt.toInt_F x.last.1 g2.1 (by omega))
  have T3 := Lib.hid (flt.toInt_F x.last.2 g3.1 (by omega))
  have Q3 := Lib.hid q3.2
  have Q4 := Lib.hid q4.2
  have hl3 := q3.1
  have hl4 := q4.1
  clear q0 q1 q3 q4
  have hlx := hby
  unfold putIm at hlx
  rw [List.length_append, List.length_append, List.length_append, List.length_append] at hlx
  have kb := Blk.new w [.complex .f64 (flt.F x.floor.1) (flt.F x.floor.2), .complex .f64 (flt.F x.last.1) (flt.F x.last.2), .int .i64 x.gen, .slice a3 x.log.length cap3, .slice a4 x.seen.length cap4] 62
  have hw0 : Below w.heap.size w (w.alloc (.cells #[.complex .f64 (flt.F x.floor.1) (flt.F x.floor.2), .complex .f64 (flt.F x.last.1) (flt.F x.last.2), .int .i64 x.gen, .slice a3 x.log.length cap3, .slice a4 x.seen.length cap4] 62)) := (Below.refl _ _).alloc (Nat.le_refl _) _
  have hbx : w.heap.size < (w.alloc (.cells #[.complex .f64 (flt.F x.floor.1) (flt.F x.floor.2), .complex .f64 (flt.F x.last.1) (flt.F x.last.2), .int .i64 x.gen, .slice a3 x.log.length cap3, .slice a4 x.seen.length cap4] 62)).heap.size := by simp
  have bx0 := kb.cell (j := 0) rfl
  have bx1 := kb.cell (j := 1) rfl
  have bx2 := kb.cell (j := 2) rfl
  have bx3 := kb.cell (j := 3) rfl
  have bx4 := kb.cell (j := 4) rfl
  have WB := Lib.hid (rfl : w.alloc (.cells #[.complex .f64 (flt.F x.floor.1) (flt.F x.floor.2), .complex .f64 (flt.F x.last.1) (flt.F x.last.2), .int .i64 x.gen, .slice a3 x.log.length cap3, .slice a4 x.seen.length cap4] 62) = w.alloc (.cells #[.complex .f64 (flt.F x.floor.1) (flt.F x.floor.2), .complex .f64 (flt.F x.last.1) (flt.F x.last.2), .int .i64 x.gen, .slice a3 x.log.length cap3, .slice a4 x.seen.length cap4] 62))
  have b0 : Below (w.alloc (.cells #[.complex .f64 (flt.F x.floor.1) (flt.F x.floor.2), .complex .f64 (flt.F x.last.1) (flt.F x.last.2), .int .i64 x.gen, .slice a3 x.log.length cap3, .slice a4 x.seen.length cap4] 62)).heap.size (w.alloc (.cells #[.complex .f64 (flt.F x.floor.1) (flt.F x.floor.2), .complex .f64 (flt.F x.last.1) (flt.F x.last.2), .int .i64 x.gen, .slice a3 x.log.length cap3, .slice a4 x.seen.length cap4] 62)) (w.alloc (.cells #[.complex .f64 (flt.F x.floor.1) (flt.F x.floor.2), .complex .f64 (flt.F x.last.1) (flt.F x.last.2), .int .i64 x.gen, .slice a3 x.log.length cap3, .slice a4 x.seen.length cap4] 62)).drew := (Below.refl _ _).drew
  go_enter Try.func41, Try.ntmps41
  go_wp2_with fail
  refine mix.wp_region_mix (fun y => Below (w.alloc (.cells #[.complex .f64 (flt.F x.floor.1) (flt.F x.floor.2), .complex .f64 (flt.F x.last.1) (flt.F x.last.2), .int .i64 x.gen, .slice a3 x.log.length cap3, .slice a4 x.seen.length cap4] 62)).heap.size (w.alloc (.cells #[.complex .f64 (flt.F x.floor.1) (flt.F x.floor.2), .complex .f64 (flt.F x.last.1) (flt.F x.last.2), .int .i64 x.gen, .slice a3 x.log.length cap3, .slice a4 x.seen.length cap4] 62)) y) mix.noOper [([0, 1, 3, 4], 2), ([], 5), ([], 6)] [7] (by kernel_rfl) (by kernel_rfl) (fun _ _ _ d _ h => by cases d <;> exact h) ?_ ?_
  · exact b0
  rw [mix.wpMix_cons]
  simp only [List.map_cons, List.map_nil, List.getD_cons_succ, List.getD_cons_zero]
  refine BigFrame.wpQuiet_want rfl (fun K hK => ?_)
  refine entref.quiet_val (.pointer (some ⟨w.heap.size, 0, none⟩)) (fun x hx => by have hc0 := (hx.cell (p := ⟨w.heap.size, 0, none⟩) hbx).trans bx0; have hc1 := (hx.cell (p := ⟨w.heap.size, 1, none⟩) hbx).trans bx1; go_simp) (hK _ ?_)
  clear hK K
  simp only [Act.put, List.setIfInBounds_toArray, List.set_cons_zero, List.set_cons_succ]
  refine BigFrame.wpQuiet_want rfl (fun K hK => ?_)
  refine entref.quiet_val (.complex .f64 (flt.F x.floor.1) (flt.F x.floor.2)) (fun x hx => by have hc0 := (hx.cell (p := ⟨w.heap.size, 0, none⟩) hbx).trans bx0; have hc1 := (hx.cell (p := ⟨w.heap.size, 1, none⟩) hbx).trans bx1; go_simp) (hK _ ?_)
  clear hK K
  simp only [Act.put, List.setIfInBounds_toArray, List.set_cons_zero, List.set_cons_succ]
  refine BigFrame.wpQuiet_want rfl (fun K hK => ?_)
  refine entref.quiet_val (.pointer (some ⟨w.heap.size, 1, none⟩)) (fun x hx => by have hc0 := (hx.cell (p := ⟨w.heap.size, 0, none⟩) hbx).trans bx0; have hc1 := (hx.cell (p := ⟨w.heap.size, 1, none⟩) hbx).trans bx1; go_simp) (hK _ ?_)
  clear hK K
  simp only [Act.put, List.setIfInBounds_toArray, List.set_cons_zero, List.set_cons_succ]
  refine BigFrame.wpQuiet_want rfl (fun K hK => ?_)
  refine entref.quiet_val (.complex .f64 (flt.F x.last.1) (flt.F x.last.2)) (fun x hx => by have hc0 := (hx.cell (p := ⟨w.heap.size, 0, none⟩) hbx).trans bx0; have hc1 := (hx.cell (p := ⟨w.heap.size, 1, none⟩) hbx).trans bx1; go_simp) (hK _ ?_)
  clear hK K
  simp only [Act.put, List.setIfInBounds_toArray, List.set_cons_zero, List.set_cons_succ]
  refine wpQuiet_nil ?_
  refine mix.callAt_step (by rfl) (fun K hK => ?_)
  go_simp
  refine (entref.ver_any _ _ _ _ _ T0.out T1.out (by omega) (by omega) (by omega) (by omega)).mono ?_
  rintro r w1 ⟨v1, rfl, p1⟩
  have hp1 := later b0 p1
  go_wp2_with fail
  refine ⟨(Puts.below0 hp1), ?_⟩
  rw [mix.wpMix_cons]
  simp only [List.map_nil, List.getD_cons_succ, List.getD_cons_zero]
  refine wpQuiet_nil ?_
  refine mix.callAt_step (by rfl) (fun K hK => ?_)
  go_simp
  refine (entref.ver_any _ _ _ _ _ T2.out T3.out (by omega) (by omega) (by omega) (by omega)).mono ?_
  rintro r w2 ⟨v2, rfl, p2⟩
  have hp2 := Puts.over hp1 (Puts.below0 p2)
  have s2 := (show Has w2 v2 (putV2 x.last) from p2.has).rd
  go_wp2_with fail
  refine ⟨(Puts.below0 hp2), ?_⟩
  rw [mix.wpMix_cons]
  simp only [List.map_nil, List.getD_cons_succ, List.getD_cons_zero]
  refine wpQuiet_nil ?_
  refine mix.callAt_step (by rfl) (fun K hK => ?_)
  refine wp_put _ _ _ _ rfl 5 i0 Try.underlying24 HI.out hz0 hz1 hz2 rfl hp2.has _ (putV2 x.last) rfl (s2.src Try.underlying24) (by have e : (putV x.floor.1 x.floor.2).length = (putV2 x.floor).length := rfl; rw [e]; omega) (fun vq3 wq3 hq3 => hK _ _ ⟨Puts.below0 (hp2.trans hq3), ?_⟩)
  clear hK K
  have hr3 : Puts (w.alloc (.cells #[.complex .f64 (flt.F x.floor.1) (flt.F x.floor.2), .complex .f64 (flt.F x.last.1) (flt.F x.last.2), .int .i64 x.gen, .slice a3 x.log.length cap3, .slice a4 x.seen.length cap4] 62)) wq3 (.slice none 0 0) vq3 (putV2 x.floor ++ putV2 x.last) := hp2.trans hq3
  have hb3 := Puts.below0 hr3
  rw [mix.wpMix_nil]
  simp only [List.map_cons, List.map_nil, List.getD_cons_succ, List.getD_cons_zero]
  refine BigFrame.wpQuiet_want rfl (fun K hK => ?_)
  refine entref.quiet_val (vq3) (fun x hx => by go_simp) (hK _ ?_)
  clear hK K
  simp only [Act.put, List.setIfInBounds_toArray, List.set_cons_zero, List.set_cons_succ]
  refine wpQuiet_nil ?_
  have x2_q3 := (hb3.cell (p := ⟨w.heap.size, 2, none⟩) hbx).trans bx2
  go_wp2_with fail
  refine (rint_any x.gen _ q2.1 q2.2).mono ?_
  rintro r w4 ⟨v4, rfl, p4⟩
  rw [List.nil_append] at p4
  have hp4 := Puts.over hr3 (Puts.below0 p4)
  have s4 := (show Has w4 v4 (putI x.gen) from p4.has).rd
  go_wp2_with (at_builtin; refine wpList_put rfl _ _ _ _ rfl 5 i0 Try.underlying24 HI.out hz0 hz1 hz2 rfl hp4.has _ (putI x.gen) rfl (s4.src Try.underlying24) (by rw [List.length_append]; omega) ?_; intro vq5 wq5 hq5; have hr5 := hp4.trans hq5; have hb5 := Puts.below0 hr5; have x3_q5 := (hb5.cell (p := ⟨w.heap.size, 3, none⟩) hbx).trans bx3)
  refine (entries_any _ x.log _ S ((list rE).keep (fun b _ hb => (hw0.trans (hb5.mono hw0.size)).block b hb) H3.out) Q3.out hl3 (by omega)).mono ?_
  rintro r w6 ⟨v6, rfl, p6⟩
  have hp6 := Puts.over hr5 (Puts.below0 p6)
  have s6 := (show Has w6 v6 (putL putE x.log) from p6.has).rd
  go_wp2_with (at_builtin; refine wpList_put rfl _ _ _ _ rfl 5 i0 Try.underlying24 HI.out hz0 hz1 hz2 rfl hp6.has _ (putL putE x.log) rfl (s6.src Try.underlying24) (by rw [List.length_append, List.length_append]; omega) ?_; intro vq7 wq7 hq7; have hr7 := hp6.trans hq7; have hb7 := Puts.below0 hr7; have x4_q7 := (hb7.cell (p := ⟨w.heap.size, 4, none⟩) hbx).trans bx4)
  refine (seens_any _ x.seen _ S ((list rSn).keep (fun b _ hb => (hw0.trans (hb7.mono hw0.size)).block b hb) H4.out) Q4.out hl4 (by omega)).mono ?_
  rintro r w8 ⟨v8, rfl, p8⟩
  have hp8 := Puts.over hr7 (Puts.below0 p8)
  have s8 := (show Has w8 v8 (putL putSn x.seen) from p8.has).rd
  go_wp2_with (at_builtin; refine wpList_put rfl _ _ _ _ rfl 5 i0 Try.underlying24 HI.out hz0 hz1 hz2 rfl hp8.has _ (putL putSn x.seen) rfl (s8.src Try.underlying24) (by rw [List.length_append, List.length_append, List.length_append]; omega) ?_; intro vq9 wq9 hq9; have hr9 := hp8.trans hq9; have hb9 := Puts.below0 hr9)
  go_ret
  exact ⟨_, rfl, later hw0 hr9⟩

end Go.Proofs.Ytolgbnpginifkaa.mref
