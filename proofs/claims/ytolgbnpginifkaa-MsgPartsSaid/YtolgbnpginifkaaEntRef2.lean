/- The contracts of lockgateref05's Ver, Op and Entry. -/
import Derived.Test.YtolgbnpginifkaaEntRef
import Derived.Test.YtolgbnpginifkaaMix
namespace Go.Proofs.Ytolgbnpginifkaa.entref
open Go.ChangeShapes Go.WideShapes Go.ChangeAt Go.RowKit codec st own put ref blk ent entget entput
set_option linter.unusedVariables false

/-- Slices read as lists of bytes, one by one. -/
def Rds (w : World) : List Value → List (List UInt8) → Prop
  | [], [] => True
  | v :: vs, l :: ls => Rd w v l ∧ Rds w vs ls
  | _, _ => False
theorem Rds.len {w : World} : ∀ {vs : List Value} {ls : List (List UInt8)}, Rds w vs ls → vs.length = ls.length
  | [], [], _ => rfl
  | _ :: _, _ :: _, h => by simp [Rds.len h.2]
theorem Rds.get {w : World} : ∀ {vs : List Value} {ls : List (List UInt8)}, Rds w vs ls → ∀ (i : Nat) (l : List UInt8), ls[i]? = some l → ∃ v, vs[i]? = some v ∧ Rd w v l
  | [], [], _, i, l, h => by simp at h
  | v :: _, l :: _, h, 0, l', e => ⟨v, rfl, by simp at e; subst e; exact h.1⟩
  | _ :: vs, _ :: ls, h, i + 1, l', e => Rds.get h.2 i l' (by simpa using e)

theorem catL_any (b : Nat) (vs : List Value) (ls : List (List UInt8)) (w : World) (n : Nat) (hB : Blk w b vs) (hn : n = vs.length) (h : Rds w vs ls) (hm : n ≤ 1000) (hb : ls.flatten.length ≤ 140737488350000) :
    Calls Try.prog 54 #[.slice (some ⟨b, 0, none⟩) n n] w (PutsTo w (.slice none 0 0) ls.flatten) := cat_any b vs ls w n hB hn h.len h.get hm hb

/-- What came behind nothing, in a later world, of one that only had blocks more. -/
theorem later {w w1 w2 : World} {v : Value} {l : List UInt8} (hb : Below w.heap.size w w1) (p : Puts w1 w2 (.slice none 0 0) v l) : Puts w w2 (.slice none 0 0) v l := (Puts.quiet (Has.nil w) hb).trans p

/-- An operation that yields one value in every world of the class. -/
theorem quiet_val {P : Program} {o : Oper} {a : Act} {C : World → Prop} {K : Act → Prop} (v : Value) (hrun : ∀ w, C w → (execOp a.eval o).run P w = .ok (.value v) w) (hk : K (a.put o.dst v)) : o.quiet P a C K := by
  refine ⟨v, fun w hC => ?_, hk⟩
  unfold Oper.quietAt
  rw [hrun w hC]
  exact ⟨rfl, rfl⟩

set_option maxRecDepth 100000 in
theorem ver_any (a b : Nat) (m n : Int) (w : World) (ha : floatToIntVal .f64 a .i64 = some m) (hb : floatToIntVal .f64 b .i64 = some n)
    (h1 : -9223372036854775808 ≤ m) (h2 : m ≤ 9223372036854775807) (h3 : -9223372036854775808 ≤ n) (h4 : n ≤ 9223372036854775807) :
    Calls Try.prog 55 #[.complex .f64 a b] w (PutsTo w (.slice none 0 0) (putV m n)) := by
  have HA := Lib.hid ha
  have HB := Lib.hid hb
  clear ha hb
  have g1 := gr_len9 m
  have g2 := gr_len9 n
  go_enter Try.func55, Try.ntmps55
  go_wp2_with fail
  refine (ver.repoch_any _ _ _ HA.out _).mono ?_
  rintro r w' ⟨rfl, rfl⟩
  go_wp2_with fail
  refine (rint_any m _ h1 h2).mono ?_
  rintro r w1 ⟨v1, rfl, p1⟩
  have s1 : St w.heap.size w w1 [(v1, putI m)] := St.ofNil (St.start w) p1
  obtain ⟨a1, c1, hx⟩ := (show Has w1 v1 (putI m) from s1.has0).len
  subst hx
  go_wp2_with fail
  refine (ver.rnum_any _ _ _ HB.out _).mono ?_
  rintro r w' ⟨rfl, rfl⟩
  go_wp2_with fail
  refine (rint_any n _ h3 h4).mono ?_
  rintro r w2 ⟨v2, rfl, p2⟩
  have s2 : St w.heap.size w w2 [(v2, putI n), (.slice a1 (putI m).length c1, putI m)] := St.ofNil s1 p2
  obtain ⟨a2, c2, hx⟩ := (show Has w2 v2 (putI n) from s2.has0).len
  subst hx
  go_wp2_with fail
  have s3 := s2.alloc (.cells #[.slice a1 (putI m).length c1, .slice a2 (putI n).length c2] 24)
  refine (catL_any w2.heap.size [.slice a1 (putI m).length c1, .slice a2 (putI n).length c2] [putI m, putI n] _ 2 (Blk.new w2 _ _) rfl ⟨s3.has1.rd, s3.has0.rd, trivial⟩ (by omega) (by simp; omega)).mono ?_
  rintro r w4 ⟨v4, rfl, p4⟩
  go_wp2_with fail
  go_ret
  have p5 := later s3.bel p4
  rw [show [putI m, putI n].flatten = putV m n by simp [putV]] at p5
  exact ⟨_, rfl, p5⟩

theorem hasAt {B0 : Nat} {W w : World} {p : Value × List UInt8} : ∀ {L : List (Value × List UInt8)}, St B0 W w L → ∀ i : Nat, L[i]? = some p → Has w p.1 p.2
  | q :: _, s, 0, h => by simp at h; subst h; exact s.has0
  | _ :: _, s, i + 1, h => hasAt s.drop i (by simpa using h)
  | [], _, i, h => by simp at h

theorem tsz2 {s : List UInt8} (h : s.length ≤ 65536) : (ByteArray.mk s.toArray).size ≤ 140737488300000 := by
  have e : (ByteArray.mk s.toArray).size = s.length := by simp [ByteArray.size]
  rw [e]; omega

set_option maxRecDepth 100000 in
set_option maxHeartbeats 2000000 in
theorem op_any (o : OpD) (w : World) (h0 : -9223372036854775808 ≤ o.kind ∧ o.kind ≤ 9223372036854775807) (h1 : o.key.length ≤ 65536) (h2 : o.val.length ≤ 65536) (h3 : o.old.length ≤ 65536) :
    Calls Try.prog 34 #[.agg (cO o).toArray] w (PutsTo w (.slice none 0 0) (putO o)) := by
  have q0 := gr_len9 (o.kind)
  have q1 := tlen2 (o.key)
  have q2 := tlen2 (o.val)
  have q3 := tlen2 (o.old)
  have q4 := (show (putB (o.has)).length = 1 from rfl)
  have sz := ((St.start w).alloc (.cells (cO o).toArray 52)).drew
  have kz : Blk (w.alloc (.cells (cO o).toArray 52)).drew w.heap.size (cO o) := (Blk.new w (cO o) 52).drew
  go_enter Try.func34, Try.ntmps34
  go_wp2_with fail
  refine mix.wp_region_mix (fun x => Blk x w.heap.size (cO o)) mix.noOper [([0, 1, 3, 4, 6, 7, 9, 10, 12, 13], 2), ([], 5), ([], 8), ([], 11), ([], 14), ([], 15), ([], 16)] [17] (by kernel_rfl) (by kernel_rfl) (fun _ _ _ d _ h => by cases d <;> exact h) ?_ ?_
  · exact kz
  rw [mix.wpMix_cons]
  simp only [List.map_cons, List.map_nil, List.getD_cons_succ, List.getD_cons_zero]
  refine BigFrame.wpQuiet_want rfl (fun K hK => ?_)
  refine quiet_val (.pointer (some ⟨w.heap.size, 0, none⟩)) (fun x hx => by go_simp) (hK _ ?_)
  clear hK K
  simp only [Act.put, List.setIfInBounds_toArray, List.set_cons_zero, List.set_cons_succ]
  refine BigFrame.wpQuiet_want rfl (fun K hK => ?_)
  refine quiet_val (.int .i64 o.kind) (fun x hx => by have hc := hx.cell (j := 0) rfl; go_simp) (hK _ ?_)
  clear hK K
  simp only [Act.put, List.setIfInBounds_toArray, List.set_cons_zero, List.set_cons_succ]
  refine BigFrame.wpQuiet_want rfl (fun K hK => ?_)
  refine quiet_val (.pointer (some ⟨w.heap.size, 1, none⟩)) (fun x hx => by go_simp) (hK _ ?_)
  clear hK K
  simp only [Act.put, List.setIfInBounds_toArray, List.set_cons_zero, List.set_cons_succ]
  refine BigFrame.wpQuiet_want rfl (fun K hK => ?_)
  refine quiet_val (.string ⟨(o.key).toArray⟩) (fun x hx => by have hc := hx.cell (j := 1) rfl; go_simp) (hK _ ?_)
  clear hK K
  simp only [Act.put, List.setIfInBounds_toArray, List.set_cons_zero, List.set_cons_succ]
  refine BigFrame.wpQuiet_want rfl (fun K hK => ?_)
  refine quiet_val (.pointer (some ⟨w.heap.size, 2, none⟩)) (fun x hx => by go_simp) (hK _ ?_)
  clear hK K
  simp only [Act.put, List.setIfInBounds_toArray, List.set_cons_zero, List.set_cons_succ]
  refine BigFrame.wpQuiet_want rfl (fun K hK => ?_)
  refine quiet_val (.string ⟨(o.val).toArray⟩) (fun x hx => by have hc := hx.cell (j := 2) rfl; go_simp) (hK _ ?_)
  clear hK K
  simp only [Act.put, List.setIfInBounds_toArray, List.set_cons_zero, List.set_cons_succ]
  refine BigFrame.wpQuiet_want rfl (fun K hK => ?_)
  refine quiet_val (.pointer (some ⟨w.heap.size, 3, none⟩)) (fun x hx => by go_simp) (hK _ ?_)
  clear hK K
  simp only [Act.put, List.setIfInBounds_toArray, List.set_cons_zero, List.set_cons_succ]
  refine BigFrame.wpQuiet_want rfl (fun K hK => ?_)
  refine quiet_val (.string ⟨(o.old).toArray⟩) (fun x hx => by have hc := hx.cell (j := 3) rfl; go_simp) (hK _ ?_)
  clear hK K
  simp only [Act.put, List.setIfInBounds_toArray, List.set_cons_zero, List.set_cons_succ]
  refine BigFrame.wpQuiet_want rfl (fun K hK => ?_)
  refine quiet_val (.pointer (some ⟨w.heap.size, 4, none⟩)) (fun x hx => by go_simp) (hK _ ?_)
  clear hK K
  simp only [Act.put, List.setIfInBounds_toArray, List.set_cons_zero, List.set_cons_succ]
  refine BigFrame.wpQuiet_want rfl (fun K hK => ?_)
  refine quiet_val (.bool o.has) (fun x hx => by have hc := hx.cell (j := 4) rfl; go_simp) (hK _ ?_)
  clear hK K
  simp only [Act.put, List.setIfInBounds_toArray, List.set_cons_zero, List.set_cons_succ]
  refine wpQuiet_nil ?_
  refine mix.callAt_step (by rfl) (fun K hK => ?_)
  go_simp
  refine (rint_any (o.kind) _ (by omega) (by omega)).mono ?_
  rintro r w0 ⟨v0, rfl, p0⟩
  have s0 : St w.heap.size w w0 [(v0, putI o.kind)] := St.ofNil sz p0
  have k0 := (kz : Blk _ w.heap.size (cO o)).below (Puts.below0 p0) (Blk.lt kz)
  obtain ⟨a0, c0, hx⟩ := (show Has w0 v0 (putI o.kind) from s0.has0).len
  subst hx
  go_wp2_with fail
  refine ⟨k0, ?_⟩
  rw [mix.wpMix_cons]
  simp only [List.map_nil, List.getD_cons_succ, List.getD_cons_zero]
  refine wpQuiet_nil ?_
  refine mix.callAt_step (by rfl) (fun K hK => ?_)
  go_simp
  refine (rtext_any ⟨(o.key).toArray⟩ _ (tsz2 (by omega))).mono ?_
  rintro r w1 ⟨v1, rfl, p1⟩
  have s1 : St w.heap.size w w1 [(v1, putT o.key), (.slice a0 (putI o.kind).length c0, putI o.kind)] := St.ofNil s0 p1
  have k1 := (k0 : Blk _ w.heap.size (cO o)).below (Puts.below0 p1) (Blk.lt k0)
  obtain ⟨a1, c1, hx⟩ := (show Has w1 v1 (putT o.key) from s1.has0).len
  subst hx
  go_wp2_with fail
  refine ⟨k1, ?_⟩
  rw [mix.wpMix_cons]
  simp only [List.map_nil, List.getD_cons_succ, List.getD_cons_zero]
  refine wpQuiet_nil ?_
  refine mix.callAt_step (by rfl) (fun K hK => ?_)
  go_simp
  refine (rtext_any ⟨(o.val).toArray⟩ _ (tsz2 (by omega))).mono ?_
  rintro r w2 ⟨v2, rfl, p2⟩
  have s2 : St w.heap.size w w2 [(v2, putT o.val), (.slice a1 (putT o.key).length c1, putT o.key), (.slice a0 (putI o.kind).length c0, putI o.kind)] := St.ofNil s1 p2
  have k2 := (k1 : Blk _ w.heap.size (cO o)).below (Puts.below0 p2) (Blk.lt k1)
  obtain ⟨a2, c2, hx⟩ := (show Has w2 v2 (putT o.val) from s2.has0).len
  subst hx
  go_wp2_with fail
  refine ⟨k2, ?_⟩
  rw [mix.wpMix_cons]
  simp only [List.map_nil, List.getD_cons_succ, List.getD_cons_zero]
  refine wpQuiet_nil ?_
  refine mix.callAt_step (by rfl) (fun K hK => ?_)
  go_simp
  refine (rtext_any ⟨(o.old).toArray⟩ _ (tsz2 (by omega))).mono ?_
  rintro r w3 ⟨v3, rfl, p3⟩
  have s3 : St w.heap.size w w3 [(v3, putT o.old), (.slice a2 (putT o.val).length c2, putT o.val), (.slice a1 (putT o.key).length c1, putT o.key), (.slice a0 (putI o.kind).length c0, putI o.kind)] := St.ofNil s2 p3
  have k3 := (k2 : Blk _ w.heap.size (cO o)).below (Puts.below0 p3) (Blk.lt k2)
  obtain ⟨a3, c3, hx⟩ := (show Has w3 v3 (putT o.old) from s3.has0).len
  subst hx
  go_wp2_with fail
  refine ⟨k3, ?_⟩
  rw [mix.wpMix_cons]
  simp only [List.map_nil, List.getD_cons_succ, List.getD_cons_zero]
  refine wpQuiet_nil ?_
  refine mix.callAt_step (by rfl) (fun K hK => ?_)
  go_simp
  refine (bit_any (o.has) _).mono ?_
  rintro r w4 ⟨v4, rfl, p4⟩
  have s4 : St w.heap.size w w4 [(v4, putB o.has), (.slice a3 (putT o.old).length c3, putT o.old), (.slice a2 (putT o.val).length c2, putT o.val), (.slice a1 (putT o.key).length c1, putT o.key), (.slice a0 (putI o.kind).length c0, putI o.kind)] := St.ofNil s3 p4
  have k4 := (k3 : Blk _ w.heap.size (cO o)).below (Puts.below0 p4) (Blk.lt k3)
  obtain ⟨a4, c4, hx⟩ := (show Has w4 v4 (putB o.has) from s4.has0).len
  subst hx
  go_wp2_with fail
  refine ⟨k4, ?_⟩
  rw [mix.wpMix_cons]
  simp only [List.map_nil, List.getD_cons_succ, List.getD_cons_zero]
  refine wpQuiet_nil ?_
  refine mix.callAt_step (by rfl) (fun K hK => ?_)
  go_simp
  have sB := s4.alloc (.cells #[.slice a0 (putI o.kind).length c0, .slice a1 (putT o.key).length c1, .slice a2 (putT o.val).length c2, .slice a3 (putT o.old).length c3, .slice a4 (putB o.has).length c4] 24)
  have kB := k4.alloc (.cells #[.slice a0 (putI o.kind).length c0, .slice a1 (putT o.key).length c1, .slice a2 (putT o.val).length c2, .slice a3 (putT o.old).length c3, .slice a4 (putB o.has).length c4] 24)
  refine hK _ _ ⟨kB, ?_⟩
  clear hK K
  rw [mix.wpMix_cons]
  simp only [List.map_nil, List.getD_cons_succ, List.getD_cons_zero]
  refine wpQuiet_nil ?_
  refine mix.callAt_step (by rfl) (fun K hK => ?_)
  go_simp
  refine (catL_any w4.heap.size [.slice a0 (putI o.kind).length c0, .slice a1 (putT o.key).length c1, .slice a2 (putT o.val).length c2, .slice a3 (putT o.old).length c3, .slice a4 (putB o.has).length c4] [putI o.kind, putT o.key, putT o.val, putT o.old, putB o.has] _ 5 (Blk.new w4 _ _) rfl ⟨(hasAt sB 4 rfl).rd, (hasAt sB 3 rfl).rd, (hasAt sB 2 rfl).rd, (hasAt sB 1 rfl).rd, (hasAt sB 0 rfl).rd, trivial⟩ (by omega) (by simp only [List.flatten_cons, List.flatten_nil, List.length_append, List.length_nil]; omega)).mono ?_
  rintro r wz ⟨vz, rfl, pz⟩
  go_wp2_with fail
  refine ⟨kB.below (Puts.below0 pz) (Blk.lt kB), ?_⟩
  rw [mix.wpMix_nil]
  simp only [List.map_cons, List.map_nil, List.getD_cons_succ, List.getD_cons_zero]
  repeat (go_big_quiet_step (fail))
  refine wpQuiet_nil ?_
  go_wp2
  go_ret
  have p5 := later sB.bel pz
  rw [show [putI o.kind, putT o.key, putT o.val, putT o.old, putB o.has].flatten = putO o by simp [putO]] at p5
  exact ⟨_, rfl, p5⟩

set_option maxRecDepth 100000 in
set_option maxHeartbeats 2000000 in
theorem ent_any (o : EnD) (w : World) (h0 : fit o.ep = true) (h1 : fit o.no = true) (h2 : -9223372036854775808 ≤ o.kind ∧ o.kind ≤ 9223372036854775807) (h3 : -9223372036854775808 ≤ o.sess ∧ o.sess ≤ 9223372036854775807) (h4 : -9223372036854775808 ≤ o.num ∧ o.num ≤ 9223372036854775807) (h5 : -9223372036854775808 ≤ o.code ∧ o.code ≤ 9223372036854775807) (h6 : o.key.length ≤ 65536) (h7 : o.val.length ≤ 65536) (h8 : o.res.length ≤ 65536) :
    Calls Try.prog 33 #[.agg (cE o).toArray] w (PutsTo w (.slice none 0 0) (putE o)) := by
  have f0 := get.fit_bounds h0
  have f1 := get.fit_bounds h1
  have T0 := Lib.hid (flt.toInt_F o.ep f0.1 (by omega))
  have T1 := Lib.hid (flt.toInt_F o.no f1.1 (by omega))
  have q0 := vlen2 o.ep o.no
  have q1 := gr_len9 (o.kind)
  have q2 := tlen2 (o.key)
  have q3 := tlen2 (o.val)
  have q4 := (show (putB (o.write)).length = 1 from rfl)
  have q5 := (show (putB (o.del)).length = 1 from rfl)
  have q6 := gr_len9 (o.sess)
  have q7 := gr_len9 (o.num)
  have q8 := gr_len9 (o.code)
  have q9 := tlen2 (o.res)
  have q10 := (show (putB (o.has)).length = 1 from rfl)
  have sz := ((St.start w).alloc (.cells (cE o).toArray 48)).drew
  have kz : Blk (w.alloc (.cells (cE o).toArray 48)).drew w.heap.size (cE o) := (Blk.new w (cE o) 48).drew
  go_enter Try.func33, Try.ntmps33
  go_wp2_with fail
  refine mix.wp_region_mix (fun x => Blk x w.heap.size (cE o)) mix.noOper [([0, 1, 3, 4, 6, 7, 9, 10, 12, 13, 15, 16, 18, 19, 21, 22, 24, 25, 27, 28, 30, 31], 2), ([], 5), ([], 8), ([], 11), ([], 14), ([], 17), ([], 20), ([], 23), ([], 26), ([], 29), ([], 32), ([], 33), ([], 34)] [35] (by kernel_rfl) (by kernel_rfl) (fun _ _ _ d _ h => by cases d <;> exact h) ?_ ?_
  · exact kz
  rw [mix.wpMix_cons]
  simp only [List.map_cons, List.map_nil, List.getD_cons_succ, List.getD_cons_zero]
  refine BigFrame.wpQuiet_want rfl (fun K hK => ?_)
  refine quiet_val (.pointer (some ⟨w.heap.size, 0, none⟩)) (fun x hx => by go_simp) (hK _ ?_)
  clear hK K
  simp only [Act.put, List.setIfInBounds_toArray, List.set_cons_zero, List.set_cons_succ]
  refine BigFrame.wpQuiet_want rfl (fun K hK => ?_)
  refine quiet_val (.complex .f64 (flt.F o.ep) (flt.F o.no)) (fun x hx => by have hc := hx.cell (j := 0) rfl; go_simp) (hK _ ?_)
  clear hK K
  simp only [Act.put, List.setIfInBounds_toArray, List.set_cons_zero, List.set_cons_succ]
  refine BigFrame.wpQuiet_want rfl (fun K hK => ?_)
  refine quiet_val (.pointer (some ⟨w.heap.size, 1, none⟩)) (fun x hx => by go_simp) (hK _ ?_)
  clear hK K
  simp only [Act.put, List.setIfInBounds_toArray, List.set_cons_zero, List.set_cons_succ]
  refine BigFrame.wpQuiet_want rfl (fun K hK => ?_)
  refine quiet_val (.int .i64 o.kind) (fun x hx => by have hc := hx.cell (j := 1) rfl; go_simp) (hK _ ?_)
  clear hK K
  simp only [Act.put, List.setIfInBounds_toArray, List.set_cons_zero, List.set_cons_succ]
  refine BigFrame.wpQuiet_want rfl (fun K hK => ?_)
  refine quiet_val (.pointer (some ⟨w.heap.size, 2, none⟩)) (fun x hx => by go_simp) (hK _ ?_)
  clear hK K
  simp only [Act.put, List.setIfInBounds_toArray, List.set_cons_zero, List.set_cons_succ]
  refine BigFrame.wpQuiet_want rfl (fun K hK => ?_)
  refine quiet_val (.string ⟨(o.key).toArray⟩) (fun x hx => by have hc := hx.cell (j := 2) rfl; go_simp) (hK _ ?_)
  clear hK K
  simp only [Act.put, List.setIfInBounds_toArray, List.set_cons_zero, List.set_cons_succ]
  refine BigFrame.wpQuiet_want rfl (fun K hK => ?_)
  refine quiet_val (.pointer (some ⟨w.heap.size, 3, none⟩)) (fun x hx => by go_simp) (hK _ ?_)
  clear hK K
  simp only [Act.put, List.setIfInBounds_toArray, List.set_cons_zero, List.set_cons_succ]
  refine BigFrame.wpQuiet_want rfl (fun K hK => ?_)
  refine quiet_val (.string ⟨(o.val).toArray⟩) (fun x hx => by have hc := hx.cell (j := 3) rfl; go_simp) (hK _ ?_)
  clear hK K
  simp only [Act.put, List.setIfInBounds_toArray, List.set_cons_zero, List.set_cons_succ]
  refine BigFrame.wpQuiet_want rfl (fun K hK => ?_)
  refine quiet_val (.pointer (some ⟨w.heap.size, 4, none⟩)) (fun x hx => by go_simp) (hK _ ?_)
  clear hK K
  simp only [Act.put, List.setIfInBounds_toArray, List.set_cons_zero, List.set_cons_succ]
  refine BigFrame.wpQuiet_want rfl (fun K hK => ?_)
  refine quiet_val (.bool o.write) (fun x hx => by have hc := hx.cell (j := 4) rfl; go_simp) (hK _ ?_)
  clear hK K
  simp only [Act.put, List.setIfInBounds_toArray, List.set_cons_zero, List.set_cons_succ]
  refine BigFrame.wpQuiet_want rfl (fun K hK => ?_)
  refine quiet_val (.pointer (some ⟨w.heap.size, 5, none⟩)) (fun x hx => by go_simp) (hK _ ?_)
  clear hK K
  simp only [Act.put, List.setIfInBounds_toArray, List.set_cons_zero, List.set_cons_succ]
  refine BigFrame.wpQuiet_want rfl (fun K hK => ?_)
  refine quiet_val (.bool o.del) (fun x hx => by have hc := hx.cell (j := 5) rfl; go_simp) (hK _ ?_)
  clear hK K
  simp only [Act.put, List.setIfInBounds_toArray, List.set_cons_zero, List.set_cons_succ]
  refine BigFrame.wpQuiet_want rfl (fun K hK => ?_)
  refine quiet_val (.pointer (some ⟨w.heap.size, 6, none⟩)) (fun x hx => by go_simp) (hK _ ?_)
  clear hK K
  simp only [Act.put, List.setIfInBounds_toArray, List.set_cons_zero, List.set_cons_succ]
  refine BigFrame.wpQuiet_want rfl (fun K hK => ?_)
  refine quiet_val (.int .i64 o.sess) (fun x hx => by have hc := hx.cell (j := 6) rfl; go_simp) (hK _ ?_)
  clear hK K
  simp only [Act.put, List.setIfInBounds_toArray, List.set_cons_zero, List.set_cons_succ]
  refine BigFrame.wpQuiet_want rfl (fun K hK => ?_)
  refine quiet_val (.pointer (some ⟨w.heap.size, 7, none⟩)) (fun x hx => by go_simp) (hK _ ?_)
  clear hK K
  simp only [Act.put, List.setIfInBounds_toArray, List.set_cons_zero, List.set_cons_succ]
  refine BigFrame.wpQuiet_want rfl (fun K hK => ?_)
  refine quiet_val (.int .i64 o.num) (fun x hx => by have hc := hx.cell (j := 7) rfl; go_simp) (hK _ ?_)
  clear hK K
  simp only [Act.put, List.setIfInBounds_toArray, List.set_cons_zero, List.set_cons_succ]
  refine BigFrame.wpQuiet_want rfl (fun K hK => ?_)
  refine quiet_val (.pointer (some ⟨w.heap.size, 8, none⟩)) (fun x hx => by go_simp) (hK _ ?_)
  clear hK K
  simp only [Act.put, List.setIfInBounds_toArray, List.set_cons_zero, List.set_cons_succ]
  refine BigFrame.wpQuiet_want rfl (fun K hK => ?_)
  refine quiet_val (.int .i64 o.code) (fun x hx => by have hc := hx.cell (j := 8) rfl; go_simp) (hK _ ?_)
  clear hK K
  simp only [Act.put, List.setIfInBounds_toArray, List.set_cons_zero, List.set_cons_succ]
  refine BigFrame.wpQuiet_want rfl (fun K hK => ?_)
  refine quiet_val (.pointer (some ⟨w.heap.size, 9, none⟩)) (fun x hx => by go_simp) (hK _ ?_)
  clear hK K
  simp only [Act.put, List.setIfInBounds_toArray, List.set_cons_zero, List.set_cons_succ]
  refine BigFrame.wpQuiet_want rfl (fun K hK => ?_)
  refine quiet_val (.string ⟨(o.res).toArray⟩) (fun x hx => by have hc := hx.cell (j := 9) rfl; go_simp) (hK _ ?_)
  clear hK K
  simp only [Act.put, List.setIfInBounds_toArray, List.set_cons_zero, List.set_cons_succ]
  refine BigFrame.wpQuiet_want rfl (fun K hK => ?_)
  refine quiet_val (.pointer (some ⟨w.heap.size, 10, none⟩)) (fun x hx => by go_simp) (hK _ ?_)
  clear hK K
  simp only [Act.put, List.setIfInBounds_toArray, List.set_cons_zero, List.set_cons_succ]
  refine BigFrame.wpQuiet_want rfl (fun K hK => ?_)
  refine quiet_val (.bool o.has) (fun x hx => by have hc := hx.cell (j := 10) rfl; go_simp) (hK _ ?_)
  clear hK K
  simp only [Act.put, List.setIfInBounds_toArray, List.set_cons_zero, List.set_cons_succ]
  refine wpQuiet_nil ?_
  refine mix.callAt_step (by rfl) (fun K hK => ?_)
  go_simp
  refine (ver_any _ _ (o.ep) (o.no) _ T0.out T1.out (by omega) (by omega) (by omega) (by omega)).mono ?_
  rintro r w0 ⟨v0, rfl, p0⟩
  have s0 : St w.heap.size w w0 [(v0, putV o.ep o.no)] := St.ofNil sz p0
  have k0 := (kz : Blk _ w.heap.size (cE o)).below (Puts.below0 p0) (Blk.lt kz)
  obtain ⟨a0, c0, hx⟩ := (show Has w0 v0 (putV o.ep o.no) from s0.has0).len
  subst hx
  go_wp2_with fail
  refine ⟨k0, ?_⟩
  rw [mix.wpMix_cons]
  simp only [List.map_nil, List.getD_cons_succ, List.getD_cons_zero]
  refine wpQuiet_nil ?_
  refine mix.callAt_step (by rfl) (fun K hK => ?_)
  go_simp
  refine (rint_any (o.kind) _ (by omega) (by omega)).mono ?_
  rintro r w1 ⟨v1, rfl, p1⟩
  have s1 : St w.heap.size w w1 [(v1, putI o.kind), (.slice a0 (putV o.ep o.no).length c0, putV o.ep o.no)] := St.ofNil s0 p1
  have k1 := (k0 : Blk _ w.heap.size (cE o)).below (Puts.below0 p1) (Blk.lt k0)
  obtain ⟨a1, c1, hx⟩ := (show Has w1 v1 (putI o.kind) from s1.has0).len
  subst hx
  go_wp2_with fail
  refine ⟨k1, ?_⟩
  rw [mix.wpMix_cons]
  simp only [List.map_nil, List.getD_cons_succ, List.getD_cons_zero]
  refine wpQuiet_nil ?_
  refine mix.callAt_step (by rfl) (fun K hK => ?_)
  go_simp
  refine (rtext_any ⟨(o.key).toArray⟩ _ (tsz2 (by omega))).mono ?_
  rintro r w2 ⟨v2, rfl, p2⟩
  have s2 : St w.heap.size w w2 [(v2, putT o.key), (.slice a1 (putI o.kind).length c1, putI o.kind), (.slice a0 (putV o.ep o.no).length c0, putV o.ep o.no)] := St.ofNil s1 p2
  have k2 := (k1 : Blk _ w.heap.size (cE o)).below (Puts.below0 p2) (Blk.lt k1)
  obtain ⟨a2, c2, hx⟩ := (show Has w2 v2 (putT o.key) from s2.has0).len
  subst hx
  go_wp2_with fail
  refine ⟨k2, ?_⟩
  rw [mix.wpMix_cons]
  simp only [List.map_nil, List.getD_cons_succ, List.getD_cons_zero]
  refine wpQuiet_nil ?_
  refine mix.callAt_step (by rfl) (fun K hK => ?_)
  go_simp
  refine (rtext_any ⟨(o.val).toArray⟩ _ (tsz2 (by omega))).mono ?_
  rintro r w3 ⟨v3, rfl, p3⟩
  have s3 : St w.heap.size w w3 [(v3, putT o.val), (.slice a2 (putT o.key).length c2, putT o.key), (.slice a1 (putI o.kind).length c1, putI o.kind), (.slice a0 (putV o.ep o.no).length c0, putV o.ep o.no)] := St.ofNil s2 p3
  have k3 := (k2 : Blk _ w.heap.size (cE o)).below (Puts.below0 p3) (Blk.lt k2)
  obtain ⟨a3, c3, hx⟩ := (show Has w3 v3 (putT o.val) from s3.has0).len
  subst hx
  go_wp2_with fail
  refine ⟨k3, ?_⟩
  rw [mix.wpMix_cons]
  simp only [List.map_nil, List.getD_cons_succ, List.getD_cons_zero]
  refine wpQuiet_nil ?_
  refine mix.callAt_step (by rfl) (fun K hK => ?_)
  go_simp
  refine (bit_any (o.write) _).mono ?_
  rintro r w4 ⟨v4, rfl, p4⟩
  have s4 : St w.heap.size w w4 [(v4, putB o.write), (.slice a3 (putT o.val).length c3, putT o.val), (.slice a2 (putT o.key).length c2, putT o.key), (.slice a1 (putI o.kind).length c1, putI o.kind), (.slice a0 (putV o.ep o.no).length c0, putV o.ep o.no)] := St.ofNil s3 p4
  have k4 := (k3 : Blk _ w.heap.size (cE o)).below (Puts.below0 p4) (Blk.lt k3)
  obtain ⟨a4, c4, hx⟩ := (show Has w4 v4 (putB o.write) from s4.has0).len
  subst hx
  go_wp2_with fail
  refine ⟨k4, ?_⟩
  rw [mix.wpMix_cons]
  simp only [List.map_nil, List.getD_cons_succ, List.getD_cons_zero]
  refine wpQuiet_nil ?_
  refine mix.callAt_step (by rfl) (fun K hK => ?_)
  go_simp
  refine (bit_any (o.del) _).mono ?_
  rintro r w5 ⟨v5, rfl, p5⟩
  have s5 : St w.heap.size w w5 [(v5, putB o.del), (.slice a4 (putB o.write).length c4, putB o.write), (.slice a3 (putT o.val).length c3, putT o.val), (.slice a2 (putT o.key).length c2, putT o.key), (.slice a1 (putI o.kind).length c1, putI o.kind), (.slice a0 (putV o.ep o.no).length c0, putV o.ep o.no)] := St.ofNil s4 p5
  have k5 := (k4 : Blk _ w.heap.size (cE o)).below (Puts.below0 p5) (Blk.lt k4)
  obtain ⟨a5, c5, hx⟩ := (show Has w5 v5 (putB o.del) from s5.has0).len
  subst hx
  go_wp2_with fail
  refine ⟨k5, ?_⟩
  rw [mix.wpMix_cons]
  simp only [List.map_nil, List.getD_cons_succ, List.getD_cons_zero]
  refine wpQuiet_nil ?_
  refine mix.callAt_step (by rfl) (fun K hK => ?_)
  go_simp
  refine (rint_any (o.sess) _ (by omega) (by omega)).mono ?_
  rintro r w6 ⟨v6, rfl, p6⟩
  have s6 : St w.heap.size w w6 [(v6, putI o.sess), (.slice a5 (putB o.del).length c5, putB o.del), (.slice a4 (putB o.write).length c4, putB o.write), (.slice a3 (putT o.val).length c3, putT o.val), (.slice a2 (putT o.key).length c2, putT o.key), (.slice a1 (putI o.kind).length c1, putI o.kind), (.slice a0 (putV o.ep o.no).length c0, putV o.ep o.no)] := St.ofNil s5 p6
  have k6 := (k5 : Blk _ w.heap.size (cE o)).below (Puts.below0 p6) (Blk.lt k5)
  obtain ⟨a6, c6, hx⟩ := (show Has w6 v6 (putI o.sess) from s6.has0).len
  subst hx
  go_wp2_with fail
  refine ⟨k6, ?_⟩
  rw [mix.wpMix_cons]
  simp only [List.map_nil, List.getD_cons_succ, List.getD_cons_zero]
  refine wpQuiet_nil ?_
  refine mix.callAt_step (by rfl) (fun K hK => ?_)
  go_simp
  refine (rint_any (o.num) _ (by omega) (by omega)).mono ?_
  rintro r w7 ⟨v7, rfl, p7⟩
  have s7 : St w.heap.size w w7 [(v7, putI o.num), (.slice a6 (putI o.sess).length c6, putI o.sess), (.slice a5 (putB o.del).length c5, putB o.del), (.slice a4 (putB o.write).length c4, putB o.write), (.slice a3 (putT o.val).length c3, putT o.val), (.slice a2 (putT o.key).length c2, putT o.key), (.slice a1 (putI o.kind).length c1, putI o.kind), (.slice a0 (putV o.ep o.no).length c0, putV o.ep o.no)] := St.ofNil s6 p7
  have k7 := (k6 : Blk _ w.heap.size (cE o)).below (Puts.below0 p7) (Blk.lt k6)
  obtain ⟨a7, c7, hx⟩ := (show Has w7 v7 (putI o.num) from s7.has0).len
  subst hx
  go_wp2_with fail
  refine ⟨k7, ?_⟩
  rw [mix.wpMix_cons]
  simp only [List.map_nil, List.getD_cons_succ, List.getD_cons_zero]
  refine wpQuiet_nil ?_
  refine mix.callAt_step (by rfl) (fun K hK => ?_)
  go_simp
  refine (rint_any (o.code) _ (by omega) (by omega)).mono ?_
  rintro r w8 ⟨v8, rfl, p8⟩
  have s8 : St w.heap.size w w8 [(v8, putI o.code), (.slice a7 (putI o.num).length c7, putI o.num), (.slice a6 (putI o.sess).length c6, putI o.sess), (.slice a5 (putB o.del).length c5, putB o.del), (.slice a4 (putB o.write).length c4, putB o.write), (.slice a3 (putT o.val).length c3, putT o.val), (.slice a2 (putT o.key).length c2, putT o.key), (.slice a1 (putI o.kind).length c1, putI o.kind), (.slice a0 (putV o.ep o.no).length c0, putV o.ep o.no)] := St.ofNil s7 p8
  have k8 := (k7 : Blk _ w.heap.size (cE o)).below (Puts.below0 p8) (Blk.lt k7)
  obtain ⟨a8, c8, hx⟩ := (show Has w8 v8 (putI o.code) from s8.has0).len
  subst hx
  go_wp2_with fail
  refine ⟨k8, ?_⟩
  rw [mix.wpMix_cons]
  simp only [List.map_nil, List.getD_cons_succ, List.getD_cons_zero]
  refine wpQuiet_nil ?_
  refine mix.callAt_step (by rfl) (fun K hK => ?_)
  go_simp
  refine (rtext_any ⟨(o.res).toArray⟩ _ (tsz2 (by omega))).mono ?_
  rintro r w9 ⟨v9, rfl, p9⟩
  have s9 : St w.heap.size w w9 [(v9, putT o.res), (.slice a8 (putI o.code).length c8, putI o.code), (.slice a7 (putI o.num).length c7, putI o.num), (.slice a6 (putI o.sess).length c6, putI o.sess), (.slice a5 (putB o.del).length c5, putB o.del), (.slice a4 (putB o.write).length c4, putB o.write), (.slice a3 (putT o.val).length c3, putT o.val), (.slice a2 (putT o.key).length c2, putT o.key), (.slice a1 (putI o.kind).length c1, putI o.kind), (.slice a0 (putV o.ep o.no).length c0, putV o.ep o.no)] := St.ofNil s8 p9
  have k9 := (k8 : Blk _ w.heap.size (cE o)).below (Puts.below0 p9) (Blk.lt k8)
  obtain ⟨a9, c9, hx⟩ := (show Has w9 v9 (putT o.res) from s9.has0).len
  subst hx
  go_wp2_with fail
  refine ⟨k9, ?_⟩
  rw [mix.wpMix_cons]
  simp only [List.map_nil, List.getD_cons_succ, List.getD_cons_zero]
  refine wpQuiet_nil ?_
  refine mix.callAt_step (by rfl) (fun K hK => ?_)
  go_simp
  refine (bit_any (o.has) _).mono ?_
  rintro r w10 ⟨v10, rfl, p10⟩
  have s10 : St w.heap.size w w10 [(v10, putB o.has), (.slice a9 (putT o.res).length c9, putT o.res), (.slice a8 (putI o.code).length c8, putI o.code), (.slice a7 (putI o.num).length c7, putI o.num), (.slice a6 (putI o.sess).length c6, putI o.sess), (.slice a5 (putB o.del).length c5, putB o.del), (.slice a4 (putB o.write).length c4, putB o.write), (.slice a3 (putT o.val).length c3, putT o.val), (.slice a2 (putT o.key).length c2, putT o.key), (.slice a1 (putI o.kind).length c1, putI o.kind), (.slice a0 (putV o.ep o.no).length c0, putV o.ep o.no)] := St.ofNil s9 p10
  have k10 := (k9 : Blk _ w.heap.size (cE o)).below (Puts.below0 p10) (Blk.lt k9)
  obtain ⟨a10, c10, hx⟩ := (show Has w10 v10 (putB o.has) from s10.has0).len
  subst hx
  go_wp2_with fail
  refine ⟨k10, ?_⟩
  rw [mix.wpMix_cons]
  simp only [List.map_nil, List.getD_cons_succ, List.getD_cons_zero]
  refine wpQuiet_nil ?_
  refine mix.callAt_step (by rfl) (fun K hK => ?_)
  go_simp
  have sB := s10.alloc (.cells #[.slice a0 (putV o.ep o.no).length c0, .slice a1 (putI o.kind).length c1, .slice a2 (putT o.key).length c2, .slice a3 (putT o.val).length c3, .slice a4 (putB o.write).length c4, .slice a5 (putB o.del).length c5, .slice a6 (putI o.sess).length c6, .slice a7 (putI o.num).length c7, .slice a8 (putI o.code).length c8, .slice a9 (putT o.res).length c9, .slice a10 (putB o.has).length c10] 24)
  have kB := k10.alloc (.cells #[.slice a0 (putV o.ep o.no).length c0, .slice a1 (putI o.kind).length c1, .slice a2 (putT o.key).length c2, .slice a3 (putT o.val).length c3, .slice a4 (putB o.write).length c4, .slice a5 (putB o.del).length c5, .slice a6 (putI o.sess).length c6, .slice a7 (putI o.num).length c7, .slice a8 (putI o.code).length c8, .slice a9 (putT o.res).length c9, .slice a10 (putB o.has).length c10] 24)
  refine hK _ _ ⟨kB, ?_⟩
  clear hK K
  rw [mix.wpMix_cons]
  simp only [List.map_nil, List.getD_cons_succ, List.getD_cons_zero]
  refine wpQuiet_nil ?_
  refine mix.callAt_step (by rfl) (fun K hK => ?_)
  go_simp
  refine (catL_any w10.heap.size [.slice a0 (putV o.ep o.no).length c0, .slice a1 (putI o.kind).length c1, .slice a2 (putT o.key).length c2, .slice a3 (putT o.val).length c3, .slice a4 (putB o.write).length c4, .slice a5 (putB o.del).length c5, .slice a6 (putI o.sess).length c6, .slice a7 (putI o.num).length c7, .slice a8 (putI o.code).length c8, .slice a9 (putT o.res).length c9, .slice a10 (putB o.has).length c10] [putV o.ep o.no, putI o.kind, putT o.key, putT o.val, putB o.write, putB o.del, putI o.sess, putI o.num, putI o.code, putT o.res, putB o.has] _ 11 (Blk.new w10 _ _) rfl ⟨(hasAt sB 10 rfl).rd, (hasAt sB 9 rfl).rd, (hasAt sB 8 rfl).rd, (hasAt sB 7 rfl).rd, (hasAt sB 6 rfl).rd, (hasAt sB 5 rfl).rd, (hasAt sB 4 rfl).rd, (hasAt sB 3 rfl).rd, (hasAt sB 2 rfl).rd, (hasAt sB 1 rfl).rd, (hasAt sB 0 rfl).rd, trivial⟩ (by omega) (by simp only [List.flatten_cons, List.flatten_nil, List.length_append, List.length_nil]; omega)).mono ?_
  rintro r wz ⟨vz, rfl, pz⟩
  go_wp2_with fail
  refine ⟨kB.below (Puts.below0 pz) (Blk.lt kB), ?_⟩
  rw [mix.wpMix_nil]
  simp only [List.map_cons, List.map_nil, List.getD_cons_succ, List.getD_cons_zero]
  repeat (go_big_quiet_step (fail))
  refine wpQuiet_nil ?_
  go_wp2
  go_ret
  have p5 := later sB.bel pz
  rw [show [putV o.ep o.no, putI o.kind, putT o.key, putT o.val, putB o.write, putB o.del, putI o.sess, putI o.num, putI o.code, putT o.res, putB o.has].flatten = putE o by simp [putE]] at p5
  exact ⟨_, rfl, p5⟩

end Go.Proofs.Ytolgbnpginifkaa.entref
