/- lockgateref06.Same of two empty messages; lockgatelaw06.awake answers true. -/
import Derived.Test.YtolgbnpginifkaaMPut
import Derived.Test.YtolgbnpginifkaaMGetM
import Derived.Test.YtolgbnpginifkaaSet
namespace Go.Proofs.Ytolgbnpginifkaa.awake6
open Go.ChangeShapes Go.WideShapes Go.ChangeAt Go.RowKit codec st own put ref get blk rep ent msgd entget entput entref minto mref mput big
set_option linter.unusedVariables false

def mz : MsD := ⟨[0, 0, 0, 0, 0, 0, 0, 0, 0, 0, 0, 0], false, false, [], [], (0, 0), (0, 0), ⟨0, [], [], [], false⟩, [], [], [], ⟨(0, 0), (0, 0), 0, [], []⟩⟩
theorem nilE {α : Type} (R : Rep α) (w : World) (S : Nat → Prop) : (rep.list R).rep w S [] [.slice none 0 0] := ⟨_, [], rfl, trivial, RdS.nil _ _ _⟩
theorem zRep (w : World) (S : Nat → Prop) : mget.rMs.rep w S mz mget.zMs :=
  ⟨0, 0, 0, 0, 0, 0, 0, 0, 0, 0, 0, 0, .slice none 0 0, .slice none 0 0, .slice none 0 0, .slice none 0 0, .slice none 0 0, rfl, by simp only [mz, awake5.zBits]; rfl, nilE _ _ _, nilE _ _ _, nilE _ _ _, nilE _ _ _, nilE _ _ _⟩
theorem zP : PMs mz := by
  have h0 : ∀ y ∈ mz.ns, In y := by simp [mz, In]
  exact ⟨⟨rfl, h0⟩, trivial, trivial, by decide, by decide, by unfold Fit2; decide, by unfold Fit2; decide, ⟨by unfold In; decide, by decide, by decide, by decide⟩, ⟨by decide, by simp [mz]⟩, ⟨by decide, by simp [mz]⟩, ⟨by decide, by simp [mz]⟩, by unfold Fit2; decide, by unfold Fit2; decide, by unfold In; decide, ⟨by decide, by simp [mz]⟩, ⟨by decide, by simp [mz]⟩⟩
theorem zLen : (putMs mz).length ≤ 1000000 := by decide

set_option maxRecDepth 100000 in
set_option maxHeartbeats 4000000 in
theorem same0_any (w : World) : Calls Try.prog 37 #[.agg #[.int .i64 0, .int .i64 0, .int .i64 0, .int .i64 0, .int .i64 0, .int .i64 0, .int .i64 0, .int .i64 0, .int .i64 0, .int .i64 0, .int .i64 0, .int .i64 0, .bool false, .bool false, .string ⟨#[]⟩, .string ⟨#[]⟩, .complex .f64 0 0, .complex .f64 0 0, .int .i64 0, .string ⟨#[]⟩, .string ⟨#[]⟩, .string ⟨#[]⟩, .bool false, .slice none 0 0, .slice none 0 0, .slice none 0 0, .complex .f64 0 0, .complex .f64 0 0, .int .i64 0, .slice none 0 0, .slice none 0 0], .agg #[.int .i64 0, .int .i64 0, .int .i64 0, .int .i64 0, .int .i64 0, .int .i64 0, .int .i64 0, .int .i64 0, .int .i64 0, .int .i64 0, .int .i64 0, .int .i64 0, .bool false, .bool false, .string ⟨#[]⟩, .string ⟨#[]⟩, .complex .f64 0 0, .complex .f64 0 0, .int .i64 0, .string ⟨#[]⟩, .string ⟨#[]⟩, .string ⟨#[]⟩, .bool false, .slice none 0 0, .slice none 0 0, .slice none 0 0, .complex .f64 0 0, .complex .f64 0 0, .int .i64 0, .slice none 0 0, .slice none 0 0]] w (Says w true) := by
  have hw0 : Below w.heap.size w ((w.alloc (.cells #[.int .i64 0, .int .i64 0, .int .i64 0, .int .i64 0, .int .i64 0, .int .i64 0, .int .i64 0, .int .i64 0, .int .i64 0, .int .i64 0, .int .i64 0, .int .i64 0, .bool false, .bool false, .string ⟨#[]⟩, .string ⟨#[]⟩, .complex .f64 0 0, .complex .f64 0 0, .int .i64 0, .string ⟨#[]⟩, .string ⟨#[]⟩, .string ⟨#[]⟩, .bool false, .slice none 0 0, .slice none 0 0, .slice none 0 0, .complex .f64 0 0, .complex .f64 0 0, .int .i64 0, .slice none 0 0, .slice none 0 0] 64)).alloc (.cells #[.int .i64 0, .int .i64 0, .int .i64 0, .int .i64 0, .int .i64 0, .int .i64 0, .int .i64 0, .int .i64 0, .int .i64 0, .int .i64 0, .int .i64 0, .int .i64 0, .bool false, .bool false, .string ⟨#[]⟩, .string ⟨#[]⟩, .complex .f64 0 0, .complex .f64 0 0, .int .i64 0, .string ⟨#[]⟩, .string ⟨#[]⟩, .string ⟨#[]⟩, .bool false, .slice none 0 0, .slice none 0 0, .slice none 0 0, .complex .f64 0 0, .complex .f64 0 0, .int .i64 0, .slice none 0 0, .slice none 0 0] 64)) := ((Below.refl _ _).alloc (Nat.le_refl _) _).alloc (by simp) _
  have k1 : Blk ((w.alloc (.cells #[.int .i64 0, .int .i64 0, .int .i64 0, .int .i64 0, .int .i64 0, .int .i64 0, .int .i64 0, .int .i64 0, .int .i64 0, .int .i64 0, .int .i64 0, .int .i64 0, .bool false, .bool false, .string ⟨#[]⟩, .string ⟨#[]⟩, .complex .f64 0 0, .complex .f64 0 0, .int .i64 0, .string ⟨#[]⟩, .string ⟨#[]⟩, .string ⟨#[]⟩, .bool false, .slice none 0 0, .slice none 0 0, .slice none 0 0, .complex .f64 0 0, .complex .f64 0 0, .int .i64 0, .slice none 0 0, .slice none 0 0] 64)).alloc (.cells #[.int .i64 0, .int .i64 0, .int .i64 0, .int .i64 0, .int .i64 0, .int .i64 0, .int .i64 0, .int .i64 0, .int .i64 0, .int .i64 0, .int .i64 0, .int .i64 0, .bool false, .bool false, .string ⟨#[]⟩, .string ⟨#[]⟩, .complex .f64 0 0, .complex .f64 0 0, .int .i64 0, .string ⟨#[]⟩, .string ⟨#[]⟩, .string ⟨#[]⟩, .bool false, .slice none 0 0, .slice none 0 0, .slice none 0 0, .complex .f64 0 0, .complex .f64 0 0, .int .i64 0, .slice none 0 0, .slice none 0 0] 64)) w.heap.size mget.zMs := (Blk.new w mget.zMs 64).alloc _
  have k2 : Blk ((w.alloc (.cells #[.int .i64 0, .int .i64 0, .int .i64 0, .int .i64 0, .int .i64 0, .int .i64 0, .int .i64 0, .int .i64 0, .int .i64 0, .int .i64 0, .int .i64 0, .int .i64 0, .bool false, .bool false, .string ⟨#[]⟩, .string ⟨#[]⟩, .complex .f64 0 0, .complex .f64 0 0, .int .i64 0, .string ⟨#[]⟩, .string ⟨#[]⟩, .string ⟨#[]⟩, .bool false, .slice none 0 0, .slice none 0 0, .slice none 0 0, .complex .f64 0 0, .complex .f64 0 0, .int .i64 0, .slice none 0 0, .slice none 0 0] 64)).alloc (.cells #[.int .i64 0, .int .i64 0, .int .i64 0, .int .i64 0, .int .i64 0, .int .i64 0, .int .i64 0, .int .i64 0, .int .i64 0, .int .i64 0, .int .i64 0, .int .i64 0, .bool false, .bool false, .string ⟨#[]⟩, .string ⟨#[]⟩, .complex .f64 0 0, .complex .f64 0 0, .int .i64 0, .string ⟨#[]⟩, .string ⟨#[]⟩, .string ⟨#[]⟩, .bool false, .slice none 0 0, .slice none 0 0, .slice none 0 0, .complex .f64 0 0, .complex .f64 0 0, .int .i64 0, .slice none 0 0, .slice none 0 0] 64)) (w.heap.size + 1) mget.zMs := by
    have h := Blk.new (w.alloc (.cells #[.int .i64 0, .int .i64 0, .int .i64 0, .int .i64 0, .int .i64 0, .int .i64 0, .int .i64 0, .int .i64 0, .int .i64 0, .int .i64 0, .int .i64 0, .int .i64 0, .bool false, .bool false, .string ⟨#[]⟩, .string ⟨#[]⟩, .complex .f64 0 0, .complex .f64 0 0, .int .i64 0, .string ⟨#[]⟩, .string ⟨#[]⟩, .string ⟨#[]⟩, .bool false, .slice none 0 0, .slice none 0 0, .slice none 0 0, .complex .f64 0 0, .complex .f64 0 0, .int .i64 0, .slice none 0 0, .slice none 0 0] 64)) mget.zMs 64
    rw [show (w.alloc (.cells #[.int .i64 0, .int .i64 0, .int .i64 0, .int .i64 0, .int .i64 0, .int .i64 0, .int .i64 0, .int .i64 0, .int .i64 0, .int .i64 0, .int .i64 0, .int .i64 0, .bool false, .bool false, .string ⟨#[]⟩, .string ⟨#[]⟩, .complex .f64 0 0, .complex .f64 0 0, .int .i64 0, .string ⟨#[]⟩, .string ⟨#[]⟩, .string ⟨#[]⟩, .bool false, .slice none 0 0, .slice none 0 0, .slice none 0 0, .complex .f64 0 0, .complex .f64 0 0, .int .i64 0, .slice none 0 0, .slice none 0 0] 64)).heap.size = w.heap.size + 1 by simp] at h
    exact h
  go_enter Try.func37, Try.ntmps37
  go_wp2_with fail
  generalize ((w.alloc (.cells #[.int .i64 0, .int .i64 0, .int .i64 0, .int .i64 0, .int .i64 0, .int .i64 0, .int .i64 0, .int .i64 0, .int .i64 0, .int .i64 0, .int .i64 0, .int .i64 0, .bool false, .bool false, .string ⟨#[]⟩, .string ⟨#[]⟩, .complex .f64 0 0, .complex .f64 0 0, .int .i64 0, .string ⟨#[]⟩, .string ⟨#[]⟩, .string ⟨#[]⟩, .bool false, .slice none 0 0, .slice none 0 0, .slice none 0 0, .complex .f64 0 0, .complex .f64 0 0, .int .i64 0, .slice none 0 0, .slice none 0 0] 64)).alloc (.cells #[.int .i64 0, .int .i64 0, .int .i64 0, .int .i64 0, .int .i64 0, .int .i64 0, .int .i64 0, .int .i64 0, .int .i64 0, .int .i64 0, .int .i64 0, .int .i64 0, .bool false, .bool false, .string ⟨#[]⟩, .string ⟨#[]⟩, .complex .f64 0 0, .complex .f64 0 0, .int .i64 0, .string ⟨#[]⟩, .string ⟨#[]⟩, .string ⟨#[]⟩, .bool false, .slice none 0 0, .slice none 0 0, .slice none 0 0, .complex .f64 0 0, .complex .f64 0 0, .int .i64 0, .slice none 0 0, .slice none 0 0] 64)) = wb at hw0 k1 k2 ⊢
  have l1 := k1.lt
  have l2 := k2.lt
  refine mix.wp_region_mix (fun y => Below wb.heap.size wb y) mix.noOper [([0, 2], 1), ([], 3), ([], 4)] [5] (by kernel_rfl) (by kernel_rfl) (fun _ _ _ d _ h => by cases d <;> exact h) ?_ ?_
  · exact (Below.refl _ _).drew
  rw [mix.wpMix_cons]
  simp only [List.map_cons, List.map_nil, List.getD_cons_succ, List.getD_cons_zero]
  refine BigFrame.wpQuiet_want rfl (fun K hK => ?_)
  refine entref.quiet_val (packA mget.zMs) (fun x hx => run_load_big 64 _ rfl w.heap.size rfl mget.zMs _ (k1.below hx l1) Try.underlying64 rfl (by kernel_rfl)) (hK _ ?_)
  clear hK K
  simp only [Act.put, List.setIfInBounds_toArray, List.set_cons_zero, List.set_cons_succ]
  refine BigFrame.wpQuiet_want rfl (fun K hK => ?_)
  refine entref.quiet_val (packA mget.zMs) (fun x hx => run_load_big 64 _ rfl (w.heap.size + 1) rfl mget.zMs _ (k2.below hx l2) Try.underlying64 rfl (by kernel_rfl)) (hK _ ?_)
  clear hK K
  simp only [Act.put, List.setIfInBounds_toArray, List.set_cons_zero, List.set_cons_succ]
  refine wpQuiet_nil ?_
  refine mix.callAt_step (by rfl) (fun K hK => ?_)
  go_simp
  refine (msg6_any mz mget.zMs wb.drew (fun _ => True) (zRep _ _) zP zLen).mono ?_
  rintro r w1 ⟨v1, rfl, p1⟩
  have hp1 := later ((Below.refl wb.heap.size wb).drew) p1
  have hb1 := Puts.below0 hp1
  go_wp2_with fail
  refine ⟨hb1, ?_⟩
  rw [mix.wpMix_cons]
  simp only [List.map_nil, List.getD_cons_succ, List.getD_cons_zero]
  refine wpQuiet_nil ?_
  refine mix.callAt_step (by rfl) (fun K hK => ?_)
  go_simp
  refine (msg6_any mz mget.zMs w1 (fun _ => True) (zRep _ _) zP zLen).mono ?_
  rintro r w2 ⟨v2, rfl, p2⟩
  have hp2 := Puts.over hp1 (Puts.below0 p2)
  have hb2 := Puts.below0 hp2
  go_wp2_with fail
  refine ⟨hb2, ?_⟩
  rw [mix.wpMix_cons]
  simp only [List.map_nil, List.getD_cons_succ, List.getD_cons_zero]
  refine wpQuiet_nil ?_
  refine mix.callAt_step (by rfl) (fun K hK => ?_)
  go_simp
  refine (same_any v1 v2 (putMs mz) (putMs mz) w2 hp2.has.rd p2.has.rd).mono ?_
  rintro r w3 ⟨rfl, hb3⟩
  simp only [decide_true]
  have hb4 := hb2.trans (hb3.mono hb2.size)
  go_wp2_with fail
  refine ⟨hb4, ?_⟩
  rw [mix.wpMix_nil]
  simp only [List.map_cons, List.map_nil, List.getD_cons_succ, List.getD_cons_zero]
  refine BigFrame.wpQuiet_want rfl (fun K hK => ?_)
  refine entref.quiet_val (.bool true) (fun x hx => by go_simp) (hK _ ?_)
  clear hK K
  simp only [Act.put, List.setIfInBounds_toArray, List.set_cons_zero, List.set_cons_succ]
  refine wpQuiet_nil ?_
  go_wp2_with fail
  go_ret
  exact ⟨rfl, hw0.trans (hb4.mono hw0.size)⟩

theorem alloc64 (w : World) : (Instr.alloc 64 true (.tuple #[])).run Try.prog w = .ok (.pointer (some ⟨w.heap.size, 0, none⟩)) (w.alloc (.cells mget.zMs.toArray 64)) := by kernel_rfl
theorem L0 : (putMs m0).length = 36 := by decide
theorem G0 : mget.getMsg (putMs m0) = some m0 := by rfl
theorem G1 : mget.getMsg (putMs m0 ++ [0]) = none := by rfl
theorem H5 : (putMs m0).take 5 = [6, 200, 1, 2, 0] := by decide

set_option maxRecDepth 100000 in
set_option maxHeartbeats 20000000 in
theorem awake_any (w : World) : Calls Try.prog 35 #[] w (Says w true) := by
  obtain ⟨i0, hi, hz0, hz1, hz2⟩ := info_parts info_u8
  have HI := Lib.hid hi
  clear hi
  have hst : ∀ (x y : Nat) (w : World) (a : Addr) (q : Mode), (store a (.complex .f64 x y) q).run Try.prog w = stored Try.prog w a (.complex .f64 x y) q := fun x y w a q => run_store Try.prog w a _ q rfl
  go_enter Try.func35, Try.ntmps35
  go_wp2_with fail
  refine (mput.put0_any _).mono ?_
  rintro r w1 ⟨v1, rfl, p1⟩
  have s1 : St w.heap.size w w1 [(v1, putMs m0)] := St.ofNil (St.start w) p1
  obtain ⟨g1, off1, cap1', u1', hx, -, -⟩ := Has.at (i := 0) (show Has w1 v1 (putMs m0) from s1.has0) (by rw [L0]; omega)
  rw [L0] at hx
  subst hx
  have hc36 : 36 ≤ cap1' := by
    rcases (show Has w1 _ (putMs m0) from s1.has0).2 with ⟨e, _⟩ | ⟨g, off, cap, e, hn, _⟩
    · cases e
    · simp only [Value.slice.injEq] at e
      rw [L0] at hn
      omega
  go_wp2_with fail
  refine (mget.msg_any _ (putMs m0) w1 s1.has0.rd (by rw [L0]; omega)).mono ?_
  rintro r w2 ⟨hb2, hg⟩
  rename_i K1 hK1
  rw [G0] at hg
  obtain ⟨cs, hrep, rfl⟩ := hg
  obtain ⟨n0, n1, n2, n3, n4, n5, n6, n7, n8, n9, n10, n11, u0, u1, u2, u3, u4, hns, rfl, h0, h1, h2, h3, h4⟩ := hrep
  have hns : ([3, 100, 1, 0, 0, 0, 0, 0, 0, 0, 0, 0] : List Int) = [n0, n1, n2, n3, n4, n5, n6, n7, n8, n9, n10, n11] := hns
  simp only [List.cons.injEq, and_true] at hns
  obtain ⟨rfl, rfl, rfl, rfl, rfl, rfl, rfl, rfl, rfl, rfl, rfl, rfl⟩ := hns
  obtain ⟨u0', rows0, e0, -, -, a0, cap0, rfl, -⟩ := h0
  simp only [List.cons.injEq, and_true] at e0
  subst e0
  obtain ⟨u1', rows1, e1, -, -, a1, cap1, rfl, -⟩ := h1
  simp only [List.cons.injEq, and_true] at e1
  subst e1
  obtain ⟨u2', rows2, e2, -, -, a2, cap2, rfl, -⟩ := h2
  simp only [List.cons.injEq, and_true] at e2
  subst e2
  obtain ⟨u3', rows3, e3, -, -, a3, cap3, rfl, -⟩ := h3
  simp only [List.cons.injEq, and_true] at e3
  subst e3
  obtain ⟨u4', rows4, e4, -, -, a4, cap4, rfl, -⟩ := h4
  simp only [List.cons.injEq, and_true] at e4
  subst e4
  have e0 : (m0.has, m0.fresh, m0.key, m0.val, m0.ver, m0.floor, m0.op, m0.ents, m0.chain, m0.views, m0.img) = (false, false, [], [], (0, 0), (0, 0), ⟨0, [], [], [], false⟩, [], [], [], ⟨(0, 0), (0, 0), 0, [], []⟩) := rfl
  simp only [Prod.mk.injEq] at e0
  obtain ⟨e1, e2, e3, e4, e5, e6, e7, e8, e9, e10, e11⟩ := e0
  simp only [packA, e1, e2, e3, e4, e5, e6, e7, e8, e9, e10, e11, awake5.zBits, List.length_nil]
  have s2 := s1.quiet hb2
  have kZ := Blk.new w2 mget.zMs 64
  have bM := below_setCells (Nat.le_refl w2.heap.size) [.int .i64 3, .int .i64 100, .int .i64 1, .int .i64 0, .int .i64 0, .int .i64 0, .int .i64 0, .int .i64 0, .int .i64 0, .int .i64 0, .int .i64 0, .int .i64 0, .bool false, .bool false, .string ⟨#[]⟩, .string ⟨#[]⟩, .complex .f64 0 0, .complex .f64 0 0, .int .i64 0, .string ⟨#[]⟩, .string ⟨#[]⟩, .string ⟨#[]⟩, .bool false, .slice a0 0 cap0, .slice a1 0 cap1, .slice a2 0 cap2, .complex .f64 0 0, .complex .f64 0 0, .int .i64 0, .slice a3 0 cap3, .slice a4 0 cap4] 0 _ ((Below.refl w2.heap.size w2).alloc (Nat.le_refl _) (.cells mget.zMs.toArray 64))
  have kM := kZ.setCells [.int .i64 3, .int .i64 100, .int .i64 1, .int .i64 0, .int .i64 0, .int .i64 0, .int .i64 0, .int .i64 0, .int .i64 0, .int .i64 0, .int .i64 0, .int .i64 0, .bool false, .bool false, .string ⟨#[]⟩, .string ⟨#[]⟩, .complex .f64 0 0, .complex .f64 0 0, .int .i64 0, .string ⟨#[]⟩, .string ⟨#[]⟩, .string ⟨#[]⟩, .bool false, .slice a0 0 cap0, .slice a1 0 cap1, .slice a2 0 cap2, .complex .f64 0 0, .complex .f64 0 0, .int .i64 0, .slice a3 0 cap3, .slice a4 0 cap4] rfl
  have kT := kZ.there 31 rfl
  have hgM := s2.has0.lt g1 rfl
  refine hK1 _ _ ?_
  refine wpList_move rfl _ rfl ?_
  refine wpList_extract rfl _ 0 rfl _ (by rfl) _ (by rfl) ?_
  refine wpList_extract rfl _ 1 rfl _ (by rfl) _ (by rfl) ?_
  refine wpList_alloc rfl 64 rfl _ _ (alloc64 _) ?_
  refine wpList_store_mid rfl 64 _ _ (by rfl) w2.heap.size 0 #[.int .i64 3, .int .i64 100, .int .i64 1, .int .i64 0, .int .i64 0, .int .i64 0, .int .i64 0, .int .i64 0, .int .i64 0, .int .i64 0, .int .i64 0, .int .i64 0, .bool false, .bool false, .string ⟨#[]⟩, .string ⟨#[]⟩, .complex .f64 0 0, .complex .f64 0 0, .int .i64 0, .string ⟨#[]⟩, .string ⟨#[]⟩, .string ⟨#[]⟩, .bool false, .slice a0 0 cap0, .slice a1 0 cap1, .slice a2 0 cap2, .complex .f64 0 0, .complex .f64 0 0, .int .i64 0, .slice a3 0 cap3, .slice a4 0 cap4] (by rfl) (by rfl) kT (by kernel_rfl) (all_oneCell_toArray (cs := [.int .i64 3, .int .i64 100, .int .i64 1, .int .i64 0, .int .i64 0, .int .i64 0, .int .i64 0, .int .i64 0, .int .i64 0, .int .i64 0, .int .i64 0, .int .i64 0, .bool false, .bool false, .string ⟨#[]⟩, .string ⟨#[]⟩, .complex .f64 0 0, .complex .f64 0 0, .int .i64 0, .string ⟨#[]⟩, .string ⟨#[]⟩, .string ⟨#[]⟩, .bool false, .slice a0 0 cap0, .slice a1 0 cap1, .slice a2 0 cap2, .complex .f64 0 0, .complex .f64 0 0, .int .i64 0, .slice a3 0 cap3, .slice a4 0 cap4]) (by simp [Value.oneCell'])) ?_
  generalize World.setCells _ _ _ _ = wm at bM kM ⊢
  have s3 := s2.quiet bM
  have s4 := s3.alloc (.cells #[.int .u8 0] 5)
  have sB := Rd.byte wm 0 0 rfl 5
  have kM2 := kM.alloc (.cells #[.int .u8 0] 5)
  have hlm := kM.lt
  clear hK1
  go_wp2_with (at_builtin; refine wpList_put rfl _ _ _ _ rfl 5 i0 Try.underlying24 HI.out hz0 hz1 hz2 rfl s4.has0 _ [0] rfl (sB.src Try.underlying24) (by rw [L0]; simp) ?_; intro v3 w3 p3)
  refine (mget.msg_any _ (putMs m0 ++ [0]) w3 p3.has.rd (by rw [List.length_append, L0]; simp)).mono ?_
  rintro r w4 ⟨hb4, hg⟩
  rename_i K2 hK2
  rw [G1] at hg
  subst hg
  have hB0 : Has w3 (.slice (some ⟨g1, off1, none⟩) 36 cap1') (putMs m0) := Own.fr s4.has0 p3.fr
  have hB1 := hB0.below hb4 hB0.lt
  have kM3 := kM2.of_heap (p3.fr.block w2.heap.size kM2.lt (fun hh => by
    have h : (some g1 : Option Nat) = some w2.heap.size := hh.1
    injection h with h
    omega))
  have kM4 := kM3.below hb4 kM3.lt
  have sA := (s4.app0 p3).quiet hb4
  have kZ2 := Blk.new w4 mget.zMs 64
  have bM2 := below_setCells (Nat.le_refl w4.heap.size) mget.zMs 0 _ ((Below.refl w4.heap.size w4).alloc (Nat.le_refl _) (.cells mget.zMs.toArray 64))
  have kT2 := kZ2.there 31 rfl
  refine hK2 _ _ ?_
  refine wpList_move rfl _ rfl ?_
  refine wpList_extract rfl _ 0 rfl _ (by rfl) _ (by rfl) ?_
  refine wpList_extract rfl _ 1 rfl _ (by rfl) _ (by rfl) ?_
  refine wpList_alloc rfl 64 rfl _ _ (alloc64 _) ?_
  refine wpList_store_mid rfl 64 _ _ (by rfl) w4.heap.size 0 mget.zMs.toArray (by rfl) (by rfl) kT2 (by kernel_rfl) (all_oneCell_toArray (cs := mget.zMs) (by simp [mget.zMs, Value.oneCell'])) ?_
  generalize World.setCells _ _ _ _ = wn at bM2 ⊢
  clear hK2
  go_wp2_with fail
  have sC := sA.quiet bM2
  have hB2 := hB1.below bM2 hB1.lt
  have kM5 := kM4.below bM2 kM4.lt
  have hlit := Has.cells wn [6, 200, 1, 2, 0] #[.int .u8 6, .int .u8 200, .int .u8 1, .int .u8 2, .int .u8 0] 5 5 rfl rfl (by decide)
  have sD := sC.alloc (.cells #[.int .u8 6, .int .u8 200, .int .u8 1, .int .u8 2, .int .u8 0] 5)
  have hB3 := (Has.rd (l := putMs m0) (Own.alloc hB2 (.cells #[.int .u8 6, .int .u8 200, .int .u8 1, .int .u8 2, .int .u8 0] 5))).first 5 (by rw [L0]; omega)
  have kM6 := kM5.alloc (.cells #[.int .u8 6, .int .u8 200, .int .u8 1, .int .u8 2, .int .u8 0] 5)
  rw [H5] at hB3
  refine (same_any _ _ _ _ _ hB3 hlit.rd).mono ?_
  rintro r w5 ⟨rfl, hb5⟩
  simp only [decide_true]
  have kM7 := kM6.below hb5 kM6.lt
  have c0 := kM7.cell (j := 0) rfl
  have c1 := kM7.cell (j := 1) rfl
  go_wp2_with fail
  go_ret
  exact ⟨rfl, (sD.quiet hb5).bel⟩
end Go.Proofs.Ytolgbnpginifkaa.awake6
