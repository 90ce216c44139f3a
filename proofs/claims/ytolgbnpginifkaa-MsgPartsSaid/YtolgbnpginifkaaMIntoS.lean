/- The contracts of msg.into: a field is read, or the reader isn't ok any more: at operations and images. -/
import Derived.Test.YtolgbnpginifkaaMGetC
import Derived.Test.YtolgbnpginifkaaEntRef2
import Derived.Test.YtolgbnpginifkaaMix2
namespace Go.Proofs.Ytolgbnpginifkaa.minto
open Go.ChangeShapes Go.WideShapes Go.ChangeAt Go.RowKit codec st get blk rep ent msgd entget
open into (adv fI fT fB fV)
set_option linter.unusedVariables false

def zcop : List Value := zO
theorem gotO {l : List UInt8} {p : Nat} {w w1 : World} {e : Ending} (h : Gave w (vO (getO l p)) e w1) : Got rO packA (packA zO) (getO l p) w e w1 := by
  obtain ⟨rfl, hb⟩ := h
  refine ⟨hb, ?_⟩
  cases getO l p with
  | none => rfl
  | some x => exact ⟨cO x.1, rfl, rfl⟩
theorem opG_any (bv : Value) (l : List UInt8) (at_ : Nat) (w : World) (hR : Rd w bv l) (ha : at_ ≤ 9223372036854775000) (hl : l.length ≤ 9223372036854000000) :
    Calls Try.prog 32 #[bv, .int .i64 at_] w (Got rO packA (packA zO) (getO l at_) w) := (entget.op_any bv l at_ w hR ha hl).mono fun _ _ h => gotO h

set_option maxRecDepth 100000 in
set_option maxHeartbeats 4000000 in
theorem op_any (B lo rb eb k : Nat) (bv : Value) (l : List UInt8) (ks : List Nat) (s : Option (List Value × Nat)) (w : World) (h : Rst B rb eb bv l ks s w) (hlo : rb < lo ∧ eb < lo) (hlw : lo ≤ w.heap.size) (hk0 : ks[k]? = some 1) (hk1 : ks[k + 1]? = some 2) (hk2 : ks[k + 2]? = some 2) (hk3 : ks[k + 3]? = some 2) (hk4 : ks[k + 4]? = some 3) (hl : l.length ≤ 9223372036854000000) :
    Calls Try.prog 62 #[.pointer (some ⟨rb, 0, none⟩), .pointer (some ⟨eb, k, none⟩), .func (.func 32) #[] #[]] w (DoneR rO (getO l) B lo rb eb k bv l ks s w) := by
  have H := Lib.hid h
  obtain ⟨hR, hB1, hB2, hne, hbv, hs⟩ := h
  cases s with
  | none =>
    obtain ⟨p, es, b1, b2, hn⟩ := hs
    have c2 := b1.cell (j := 2) rfl
    go_enter Try.func62, Try.ntmps62
    go_wp2_with fail
    go_end0
    exact stillR H.out zcop rfl
  | some x =>
    obtain ⟨es, p⟩ := x
    obtain ⟨b1, b2, hn, hp⟩ := hs
    have c2' := b1.cell (j := 2) rfl
    obtain ⟨v0, hv0⟩ := kd_at hn hk0
    obtain ⟨v1, hv1⟩ := kd_at hn hk1
    obtain ⟨v2, hv2⟩ := kd_at hn hk2
    obtain ⟨v3, hv3⟩ := kd_at hn hk3
    obtain ⟨v4, hv4⟩ := kd_at hn hk4
    have HN := Lib.hid hn
    have hd0 : Below w.heap.size w w.drew := (Below.refl _ _).drew
    have G := fun (w1 : World) (hb : Below w.heap.size w w1) (hR1 : Rd w1 bv l) (hp1 : p ≤ 9223372036854775000) => opG_any bv l p w1 hR1 hp1 hl
    clear hn
    cases hr : getO l p with
    | none =>
      rw [hr] at G
      have HA := Lib.hid hr
      clear hr
      go_enter Try.func62, Try.ntmps62
      go_wp2_with fail
      refine mix.wp_region_fork (fun x => Blk x rb [bv, .int .i64 p, .bool true]) mix.noOper [0, 1, 2, 3, 4, 5, 6, 7, 8] 9 [([10, 11, 12, 13], 14), ([], 15)] [16, 17] 14 [([], 9), ([10, 11, 12, 13], 15)] [16, 17] (by kernel_rfl) (by kernel_rfl) (fun _ _ _ d _ h => by cases d <;> exact h) (b1) ?_
      simp only [List.map_cons, List.map_nil, List.getD_cons_succ, List.getD_cons_zero]
      refine BigFrame.wpQuiet_want rfl (fun K hK => ?_)
      refine entref.quiet_val (.func (.func 32) #[] #[]) (fun x hx => by have hc0 := hx.cell (j := 0) rfl; have hc1 := hx.cell (j := 1) rfl; go_simp) (hK _ ?_)
      clear hK K
      simp only [Act.put, List.setIfInBounds_toArray, List.set_cons_zero, List.set_cons_succ]
      refine BigFrame.wpQuiet_want rfl (fun K hK => ?_)
      refine entref.quiet_val (.pointer (some ⟨rb, 0, none⟩)) (fun x hx => by have hc0 := hx.cell (j := 0) rfl; have hc1 := hx.cell (j := 1) rfl; go_simp) (hK _ ?_)
      clear hK K
      simp only [Act.put, List.setIfInBounds_toArray, List.set_cons_zero, List.set_cons_succ]
      refine BigFrame.wpQuiet_want rfl (fun K hK => ?_)
      refine entref.quiet_val (.pointer (some ⟨rb, 0, none⟩)) (fun x hx => by have hc0 := hx.cell (j := 0) rfl; have hc1 := hx.cell (j := 1) rfl; go_simp) (hK _ ?_)
      clear hK K
      simp only [Act.put, List.setIfInBounds_toArray, List.set_cons_zero, List.set_cons_succ]
      refine BigFrame.wpQuiet_want rfl (fun K hK => ?_)
      refine entref.quiet_val (.pointer (some ⟨rb, 0, none⟩)) (fun x hx => by have hc0 := hx.cell (j := 0) rfl; have hc1 := hx.cell (j := 1) rfl; go_simp) (hK _ ?_)
      clear hK K
      simp only [Act.put, List.setIfInBounds_toArray, List.set_cons_zero, List.set_cons_succ]
      refine BigFrame.wpQuiet_want rfl (fun K hK => ?_)
      refine entref.quiet_val (bv) (fun x hx => by have hc0 := hx.cell (j := 0) rfl; have hc1 := hx.cell (j := 1) rfl; go_simp) (hK _ ?_)
      clear hK K
      simp only [Act.put, List.setIfInBounds_toArray, List.set_cons_zero, List.set_cons_succ]
      refine BigFrame.wpQuiet_want rfl (fun K hK => ?_)
      refine entref.quiet_val (.pointer (some ⟨rb, 0, none⟩)) (fun x hx => by have hc0 := hx.cell (j := 0) rfl; have hc1 := hx.cell (j := 1) rfl; go_simp) (hK _ ?_)
      clear hK K
      simp only [Act.put, List.setIfInBounds_toArray, List.set_cons_zero, List.set_cons_succ]
      refine BigFrame.wpQuiet_want rfl (fun K hK => ?_)
      refine entref.quiet_val (.pointer (some ⟨rb, 0, none⟩)) (fun x hx => by have hc0 := hx.cell (j := 0) rfl; have hc1 := hx.cell (j := 1) rfl; go_simp) (hK _ ?_)
      clear hK K
      simp only [Act.put, List.setIfInBounds_toArray, List.set_cons_zero, List.set_cons_succ]
      refine BigFrame.wpQuiet_want rfl (fun K hK => ?_)
      refine entref.quiet_val (.pointer (some ⟨rb, 1, none⟩)) (fun x hx => by have hc0 := hx.cell (j := 0) rfl; have hc1 := hx.cell (j := 1) rfl; go_simp) (hK _ ?_)
      clear hK K
      simp only [Act.put, List.setIfInBounds_toArray, List.set_cons_zero, List.set_cons_succ]
      refine BigFrame.wpQuiet_want rfl (fun K hK => ?_)
      refine entref.quiet_val (.int .i64 p) (fun x hx => by have hc0 := hx.cell (j := 0) rfl; have hc1 := hx.cell (j := 1) rfl; go_simp) (hK _ ?_)
      clear hK K
      simp only [Act.put, List.setIfInBounds_toArray, List.set_cons_zero, List.set_cons_succ]
      refine wpQuiet_nil ⟨?_, ?_⟩
      · skip
        refine mix.callAt_step (by rfl) (fun K hK => ?_)
        go_simp
        refine (G w.drew hd0 (hR.below hd0 (Nat.le_refl _)) (by omega)).mono ?_
        rintro r w1 ⟨hw0, hg⟩
        have hw : Below w.heap.size w w1 := hd0.trans hw0
        subst hg
        simp only [packA, zO]
        go_wp2_with fail
        refine ⟨(b1.below hw b1.lt), ?_⟩
        rw [mix.wpMix_cons]
        simp only [List.map_cons, List.map_nil, List.getD_cons_succ, List.getD_cons_zero]
        refine BigFrame.wpQuiet_want rfl (fun K hK => ?_)
        refine entref.quiet_val (.tuple #[.agg #[.int .i64 0, .string ⟨#[]⟩, .string ⟨#[]⟩, .string ⟨#[]⟩, .bool false], .int .i64 0, .bool false]) (fun x hx => by go_simp) (hK _ ?_)
        clear hK K
        simp only [Act.put, List.setIfInBounds_toArray, List.set_cons_zero, List.set_cons_succ]
        refine BigFrame.wpQuiet_want rfl (fun K hK => ?_)
        refine entref.quiet_val (.agg #[.int .i64 0, .string ⟨#[]⟩, .string ⟨#[]⟩, .string ⟨#[]⟩, .bool false]) (fun x hx => by go_simp) (hK _ ?_)
        clear hK K
        simp only [Act.put, List.setIfInBounds_toArray, List.set_cons_zero, List.set_cons_succ]
        refine BigFrame.wpQuiet_want rfl (fun K hK => ?_)
        refine entref.quiet_val (.int .i64 0) (fun x hx => by go_simp) (hK _ ?_)
        clear hK K
        simp only [Act.put, List.setIfInBounds_toArray, List.set_cons_zero, List.set_cons_succ]
        refine BigFrame.wpQuiet_want rfl (fun K hK => ?_)
        refine entref.quiet_val (.bool false) (fun x hx => by go_simp) (hK _ ?_)
        clear hK K
        simp only [Act.put, List.setIfInBounds_toArray, List.set_cons_zero, List.set_cons_succ]
        refine wpQuiet_nil ?_
        refine mix.callAt_step (by rfl) (fun K hK => ?_)
        go_simp
        refine hK _ _ ⟨(b1.below hw b1.lt).alloc _, ?_⟩
        clear hK K
        rw [mix.wpMix_cons]
        simp only [List.map_nil, List.getD_cons_succ, List.getD_cons_zero]
        refine wpQuiet_nil ?_
        refine mix.callAt_step (by rfl) (fun K hK => ?_)
        go_simp
        refine hK _ _ ⟨(b1.below hw b1.lt).alloc _, ?_⟩
        clear hK K
        rw [mix.wpMix_nil]
        simp only [List.map_cons, List.map_nil, List.getD_cons_succ, List.getD_cons_zero]
        refine BigFrame.wpQuiet_want rfl (fun K hK => ?_)
        refine entref.quiet_val (.int .i64 0) (fun x hx => by go_simp) (hK _ ?_)
        clear hK K
        simp only [Act.put, List.setIfInBounds_toArray, List.set_cons_zero, List.set_cons_succ]
        refine BigFrame.wpQuiet_want rfl (fun K hK => ?_)
        refine entref.quiet_val (.bool false) (fun x hx => by go_simp) (hK _ ?_)
        clear hK K
        simp only [Act.put, List.setIfInBounds_toArray, List.set_cons_zero, List.set_cons_succ]
        refine wpQuiet_nil ?_
        have kx := Blk.new w1 [.int .i64 0, .string ⟨#[]⟩, .string ⟨#[]⟩, .string ⟨#[]⟩, .bool false] 52
        have hX := hw.alloc (Nat.le_trans (Nat.le_refl _) hw.size) (.cells #[.int .i64 0, .string ⟨#[]⟩, .string ⟨#[]⟩, .string ⟨#[]⟩, .bool false] 52)
        have hlx : eb ≠ w1.heap.size ∧ rb ≠ w1.heap.size := by have := hw.size; have := b1.lt; have := b2.lt; omega
        generalize w1.alloc (.cells #[.int .i64 0, .string ⟨#[]⟩, .string ⟨#[]⟩, .string ⟨#[]⟩, .bool false] 52) = w5 at kx hX  ⊢
        generalize w1.heap.size = xb at kx hlx ⊢
        have q1 := (b1.below hX b1.lt).cell (j := 1) rfl
        have q2 := (b1.below hX b1.lt).cell (j := 2) rfl
        have q3 := (b1.below hX b1.lt).free 1
        have q4 := (b1.below hX b1.lt).free 2
        have e0 := (b2.below hX b2.lt).cell hv0
        have f0 := (b2.below hX b2.lt).free k
        have y0 := kx.cell (j := 0) rfl
        have e1 := (b2.below hX b2.lt).cell hv1
        have f1 := (b2.below hX b2.lt).free (k + 1)
        have y1 := kx.cell (j := 1) rfl
        have e2 := (b2.below hX b2.lt).cell hv2
        have f2 := (b2.below hX b2.lt).free (k + 2)
        have y2 := kx.cell (j := 2) rfl
        have e3 := (b2.below hX b2.lt).cell hv3
        have f3 := (b2.below hX b2.lt).free (k + 3)
        have y3 := kx.cell (j := 3) rfl
        have e4 := (b2.below hX b2.lt).cell hv4
        have f4 := (b2.below hX b2.lt).free (k + 4)
        have y4 := kx.cell (j := 4) rfl
        clear hv0 hv1 hv2 hv3 hv4 hlx
        go_wp2_with fail
        go_end0
        refine ⟨zcop, fun es' p' x nx h1 h2 => ?_, rfl, failedK hR hB1 hB2 hne hlo.1 hbv b1 b2 HN.out hX (by simp [advS, HA.out])⟩
        simp only [Option.some.injEq, Prod.mk.injEq] at h1
        obtain ⟨-, rfl⟩ := h1
        rw [HA.out] at h2
        cases h2
      · skip
        refine mix.callAt_step (by rfl) (fun K hK => ?_)
        go_simp
        have kx0 := (Blk.new w [.int .i64 0, .string ⟨#[]⟩, .string ⟨#[]⟩, .string ⟨#[]⟩, .bool false] 52).drew
        have hw0 : Below w.heap.size w (w.alloc (.cells #[.int .i64 0, .string ⟨#[]⟩, .string ⟨#[]⟩, .string ⟨#[]⟩, .bool false] 52)).drew := ((Below.refl _ _).alloc (Nat.le_refl _) _).drew
        have e0 : (w.alloc (.cells #[.int .i64 0, .string ⟨#[]⟩, .string ⟨#[]⟩, .string ⟨#[]⟩, .bool false] 52)).drew.heap.size = w.heap.size + 1 := by simp
        refine hK _ _ ⟨b1.below hw0 b1.lt, ?_⟩
        clear hK K
        rw [mix.wpMix_cons]
        simp only [List.map_nil, List.getD_cons_succ, List.getD_cons_zero]
        refine wpQuiet_nil ?_
        refine mix.callAt_step (by rfl) (fun K hK => ?_)
        go_simp
        refine (G (w.alloc (.cells #[.int .i64 0, .string ⟨#[]⟩, .string ⟨#[]⟩, .string ⟨#[]⟩, .bool false] 52)).drew hw0 (hR.below hw0 (Nat.le_refl _)) (by omega)).mono ?_
        rintro r w1 ⟨hw1, hg⟩
        have hw : Below w.heap.size w w1 := hw0.trans (hw1.mono hw0.size)
        have kx1 := kx0.below hw1 kx0.lt
        subst hg
        simp only [packA, zO]
        go_wp2_with fail
        refine ⟨(b1.below hw b1.lt), ?_⟩
        rw [mix.wpMix_cons]
        simp only [List.map_cons, List.map_nil, List.getD_cons_succ, List.getD_cons_zero]
        refine BigFrame.wpQuiet_want rfl (fun K hK => ?_)
        refine entref.quiet_val (.tuple #[.agg #[.int .i64 0, .string ⟨#[]⟩, .string ⟨#[]⟩, .string ⟨#[]⟩, .bool false], .int .i64 0, .bool false]) (fun x hx => by go_simp) (hK _ ?_)
        clear hK K
        simp only [Act.put, List.setIfInBounds_toArray, List.set_cons_zero, List.set_cons_succ]
        refine BigFrame.wpQuiet_want rfl (fun K hK => ?_)
        refine entref.quiet_val (.agg #[.int .i64 0, .string ⟨#[]⟩, .string ⟨#[]⟩, .string ⟨#[]⟩, .bool false]) (fun x hx => by go_simp) (hK _ ?_)
        clear hK K
        simp only [Act.put, List.setIfInBounds_toArray, List.set_cons_zero, List.set_cons_succ]
        refine BigFrame.wpQuiet_want rfl (fun K hK => ?_)
        refine entref.quiet_val (.int .i64 0) (fun x hx => by go_simp) (hK _ ?_)
        clear hK K
        simp only [Act.put, List.setIfInBounds_toArray, List.set_cons_zero, List.set_cons_succ]
        refine BigFrame.wpQuiet_want rfl (fun K hK => ?_)
        refine entref.quiet_val (.bool false) (fun x hx => by go_simp) (hK _ ?_)
        clear hK K
        simp only [Act.put, List.setIfInBounds_toArray, List.set_cons_zero, List.set_cons_succ]
        refine wpQuiet_nil ?_
        have x0 := kx1.cell (j := 0) rfl
        have xf0 := kx1.free 0
        have x1 := kx1.cell (j := 1) rfl
        have xf1 := kx1.free 1
        have x2 := kx1.cell (j := 2) rfl
        have xf2 := kx1.free 2
        have x3 := kx1.cell (j := 3) rfl
        have xf3 := kx1.free 3
        have x4 := kx1.cell (j := 4) rfl
        have xf4 := kx1.free 4
        refine mix.callAt_step (by rfl) (fun K hK => ?_)
        go_simp
        have hlx : eb ≠ w.heap.size ∧ rb ≠ w.heap.size := by have := b1.lt; have := b2.lt; omega
        refine hK _ _ ⟨((((((b1.below hw b1.lt).other _ hlx.2).other _ hlx.2).other _ hlx.2).other _ hlx.2).other _ hlx.2), ?_⟩
        clear hK K
        rw [mix.wpMix_nil]
        simp only [List.map_cons, List.map_nil, List.getD_cons_succ, List.getD_cons_zero]
        refine BigFrame.wpQuiet_want rfl (fun K hK => ?_)
        refine entref.quiet_val (.int .i64 0) (fun x hx => by go_simp) (hK _ ?_)
        clear hK K
        simp only [Act.put, List.setIfInBounds_toArray, List.set_cons_zero, List.set_cons_succ]
        refine BigFrame.wpQuiet_want rfl (fun K hK => ?_)
        refine entref.quiet_val (.bool false) (fun x hx => by go_simp) (hK _ ?_)
        clear hK K
        simp only [Act.put, List.setIfInBounds_toArray, List.set_cons_zero, List.set_cons_succ]
        refine wpQuiet_nil ?_
        have kx := (((((kx1.set 0 (.int .i64 0)).set 1 (.string ⟨#[]⟩)).set 2 (.string ⟨#[]⟩)).set 3 (.string ⟨#[]⟩)).set 4 (.bool false))
        have hX := (((((hw.setCell (show w.heap.size ≤ (⟨w.heap.size, 0, none⟩ : Addr).block from Nat.le_refl _) (.int .i64 0)).setCell (show w.heap.size ≤ (⟨w.heap.size, 1, none⟩ : Addr).block from Nat.le_refl _) (.string ⟨#[]⟩)).setCell (show w.heap.size ≤ (⟨w.heap.size, 2, none⟩ : Addr).block from Nat.le_refl _) (.string ⟨#[]⟩)).setCell (show w.heap.size ≤ (⟨w.heap.size, 3, none⟩ : Addr).block from Nat.le_refl _) (.string ⟨#[]⟩)).setCell (show w.heap.size ≤ (⟨w.heap.size, 4, none⟩ : Addr).block from Nat.le_refl _) (.bool false))
        clear x0 xf0 x1 xf1 x2 xf2 x3 xf3 x4 xf4
        generalize ((((w1.setCell ⟨w.heap.size, 0, none⟩ (.int .i64 0)).setCell ⟨w.heap.size, 1, none⟩ (.string ⟨#[]⟩)).setCell ⟨w.heap.size, 2, none⟩ (.string ⟨#[]⟩)).setCell ⟨w.heap.size, 3, none⟩ (.string ⟨#[]⟩)).setCell ⟨w.heap.size, 4, none⟩ (.bool false) = w5 at kx hX  ⊢
        generalize w.heap.size = xb at kx hlx ⊢
        have q1 := (b1.below hX b1.lt).cell (j := 1) rfl
        have q2 := (b1.below hX b1.lt).cell (j := 2) rfl
        have q3 := (b1.below hX b1.lt).free 1
        have q4 := (b1.below hX b1.lt).free 2
        have e0 := (b2.below hX b2.lt).cell hv0
        have f0 := (b2.below hX b2.lt).free k
        have y0 := kx.cell (j := 0) rfl
        have e1 := (b2.below hX b2.lt).cell hv1
        have f1 := (b2.below hX b2.lt).free (k + 1)
        have y1 := kx.cell (j := 1) rfl
        have e2 := (b2.below hX b2.lt).cell hv2
        have f2 := (b2.below hX b2.lt).free (k + 2)
        have y2 := kx.cell (j := 2) rfl
        have e3 := (b2.below hX b2.lt).cell hv3
        have f3 := (b2.below hX b2.lt).free (k + 3)
        have y3 := kx.cell (j := 3) rfl
        have e4 := (b2.below hX b2.lt).cell hv4
        have f4 := (b2.below hX b2.lt).free (k + 4)
        have y4 := kx.cell (j := 4) rfl
        clear hv0 hv1 hv2 hv3 hv4 hlx
        go_wp2_with fail
        go_end0
        refine ⟨zcop, fun es' p' x nx h1 h2 => ?_, rfl, failedK hR hB1 hB2 hne hlo.1 hbv b1 b2 HN.out hX (by simp [advS, HA.out])⟩
        simp only [Option.some.injEq, Prod.mk.injEq] at h1
        obtain ⟨-, rfl⟩ := h1
        rw [HA.out] at h2
        cases h2
    | some q =>
      obtain ⟨m, nx⟩ := q
      have hnx : nx ≤ l.length := (lawO l p m nx hr).2.1
      have HX := Lib.hid hnx
      clear hnx
      rw [hr] at G
      have HA := Lib.hid hr
      clear hr
      go_enter Try.func62, Try.ntmps62
      go_wp2_with fail
      refine mix.wp_region_fork (fun x => Blk x rb [bv, .int .i64 p, .bool true]) mix.noOper [0, 1, 2, 3, 4, 5, 6, 7, 8] 9 [([10, 11, 12, 13], 14), ([], 15)] [16, 17] 14 [([], 9), ([10, 11, 12, 13], 15)] [16, 17] (by kernel_rfl) (by kernel_rfl) (fun _ _ _ d _ h => by cases d <;> exact h) (b1) ?_
      simp only [List.map_cons, List.map_nil, List.getD_cons_succ, List.getD_cons_zero]
      refine BigFrame.wpQuiet_want rfl (fun K hK => ?_)
      refine entref.quiet_val (.func (.func 32) #[] #[]) (fun x hx => by have hc0 := hx.cell (j := 0) rfl; have hc1 := hx.cell (j := 1) rfl; go_simp) (hK _ ?_)
      clear hK K
      simp only [Act.put, List.setIfInBounds_toArray, List.set_cons_zero, List.set_cons_succ]
      refine BigFrame.wpQuiet_want rfl (fun K hK => ?_)
      refine entref.quiet_val (.pointer (some ⟨rb, 0, none⟩)) (fun x hx => by have hc0 := hx.cell (j := 0) rfl; have hc1 := hx.cell (j := 1) rfl; go_simp) (hK _ ?_)
      clear hK K
      simp only [Act.put, List.setIfInBounds_toArray, List.set_cons_zero, List.set_cons_succ]
      refine BigFrame.wpQuiet_want rfl (fun K hK => ?_)
      refine entref.quiet_val (.pointer (some ⟨rb, 0, none⟩)) (fun x hx => by have hc0 := hx.cell (j := 0) rfl; have hc1 := hx.cell (j := 1) rfl; go_simp) (hK _ ?_)
      clear hK K
      simp only [Act.put, List.setIfInBounds_toArray, List.set_cons_zero, List.set_cons_succ]
      refine BigFrame.wpQuiet_want rfl (fun K hK => ?_)
      refine entref.quiet_val (.pointer (some ⟨rb, 0, none⟩)) (fun x hx => by have hc0 := hx.cell (j := 0) rfl; have hc1 := hx.cell (j := 1) rfl; go_simp) (hK _ ?_)
      clear hK K
      simp only [Act.put, List.setIfInBounds_toArray, List.set_cons_zero, List.set_cons_succ]
      refine BigFrame.wpQuiet_want rfl (fun K hK => ?_)
      refine entref.quiet_val (bv) (fun x hx => by have hc0 := hx.cell (j := 0) rfl; have hc1 := hx.cell (j := 1) rfl; go_simp) (hK _ ?_)
      clear hK K
      simp only [Act.put, List.setIfInBounds_toArray, List.set_cons_zero, List.set_cons_succ]
      refine BigFrame.wpQuiet_want rfl (fun K hK => ?_)
      refine entref.quiet_val (.pointer (some ⟨rb, 0, none⟩)) (fun x hx => by have hc0 := hx.cell (j := 0) rfl; have hc1 := hx.cell (j := 1) rfl; go_simp) (hK _ ?_)
      clear hK K
      simp only [Act.put, List.setIfInBounds_toArray, List.set_cons_zero, List.set_cons_succ]
      refine BigFrame.wpQuiet_want rfl (fun K hK => ?_)
      refine entref.quiet_val (.pointer (some ⟨rb, 0, none⟩)) (fun x hx => by have hc0 := hx.cell (j := 0) rfl; have hc1 := hx.cell (j := 1) rfl; go_simp) (hK _ ?_)
      clear hK K
      simp only [Act.put, List.setIfInBounds_toArray, List.set_cons_zero, List.set_cons_succ]
      refine BigFrame.wpQuiet_want rfl (fun K hK => ?_)
      refine entref.quiet_val (.pointer (some ⟨rb, 1, none⟩)) (fun x hx => by have hc0 := hx.cell (j := 0) rfl; have hc1 := hx.cell (j := 1) rfl; go_simp) (hK _ ?_)
      clear hK K
      simp only [Act.put, List.setIfInBounds_toArray, List.set_cons_zero, List.set_cons_succ]
      refine BigFrame.wpQuiet_want rfl (fun K hK => ?_)
      refine entref.quiet_val (.int .i64 p) (fun x hx => by have hc0 := hx.cell (j := 0) rfl; have hc1 := hx.cell (j := 1) rfl; go_simp) (hK _ ?_)
      clear hK K
      simp only [Act.put, List.setIfInBounds_toArray, List.set_cons_zero, List.set_cons_succ]
      refine wpQuiet_nil ⟨?_, ?_⟩
      · skip
        refine mix.callAt_step (by rfl) (fun K hK => ?_)
        go_simp
        refine (G w.drew hd0 (hR.below hd0 (Nat.le_refl _)) (by omega)).mono ?_
        rintro r w1 ⟨hw0, hg⟩
        have hw : Below w.heap.size w w1 := hd0.trans hw0
        obtain ⟨cs, hrep, rfl⟩ := hg
        have HREP := Lib.hid hrep
        obtain rfl : cs = cO m := hrep
        simp only [packA, cO]
        go_wp2_with fail
        refine ⟨(b1.below hw b1.lt), ?_⟩
        rw [mix.wpMix_cons]
        simp only [List.map_cons, List.map_nil, List.getD_cons_succ, List.getD_cons_zero]
        refine BigFrame.wpQuiet_want rfl (fun K hK => ?_)
        refine entref.quiet_val (.tuple #[.agg #[.int .i64 m.kind, .string ⟨m.key.toArray⟩, .string ⟨m.val.toArray⟩, .string ⟨m.old.toArray⟩, .bool m.has], .int .i64 nx, .bool true]) (fun x hx => by go_simp) (hK _ ?_)
        clear hK K
        simp only [Act.put, List.setIfInBounds_toArray, List.set_cons_zero, List.set_cons_succ]
        refine BigFrame.wpQuiet_want rfl (fun K hK => ?_)
        refine entref.quiet_val (.agg #[.int .i64 m.kind, .string ⟨m.key.toArray⟩, .string ⟨m.val.toArray⟩, .string ⟨m.old.toArray⟩, .bool m.has]) (fun x hx => by go_simp) (hK _ ?_)
        clear hK K
        simp only [Act.put, List.setIfInBounds_toArray, List.set_cons_zero, List.set_cons_succ]
        refine BigFrame.wpQuiet_want rfl (fun K hK => ?_)
        refine entref.quiet_val (.int .i64 nx) (fun x hx => by go_simp) (hK _ ?_)
        clear hK K
        simp only [Act.put, List.setIfInBounds_toArray, List.set_cons_zero, List.set_cons_succ]
        refine BigFrame.wpQuiet_want rfl (fun K hK => ?_)
        refine entref.quiet_val (.bool true) (fun x hx => by go_simp) (hK _ ?_)
        clear hK K
        simp only [Act.put, List.setIfInBounds_toArray, List.set_cons_zero, List.set_cons_succ]
        refine wpQuiet_nil ?_
        refine mix.callAt_step (by rfl) (fun K hK => ?_)
        go_simp
        refine hK _ _ ⟨(b1.below hw b1.lt).alloc _, ?_⟩
        clear hK K
        rw [mix.wpMix_cons]
        simp only [List.map_nil, List.getD_cons_succ, List.getD_cons_zero]
        refine wpQuiet_nil ?_
        refine mix.callAt_step (by rfl) (fun K hK => ?_)
        go_simp
        refine hK _ _ ⟨(b1.below hw b1.lt).alloc _, ?_⟩
        clear hK K
        rw [mix.wpMix_nil]
        simp only [List.map_cons, List.map_nil, List.getD_cons_succ, List.getD_cons_zero]
        refine BigFrame.wpQuiet_want rfl (fun K hK => ?_)
        refine entref.quiet_val (.int .i64 nx) (fun x hx => by go_simp) (hK _ ?_)
        clear hK K
        simp only [Act.put, List.setIfInBounds_toArray, List.set_cons_zero, List.set_cons_succ]
        refine BigFrame.wpQuiet_want rfl (fun K hK => ?_)
        refine entref.quiet_val (.bool true) (fun x hx => by go_simp) (hK _ ?_)
        clear hK K
        simp only [Act.put, List.setIfInBounds_toArray, List.set_cons_zero, List.set_cons_succ]
        refine wpQuiet_nil ?_
        have kx := Blk.new w1 [.int .i64 m.kind, .string ⟨m.key.toArray⟩, .string ⟨m.val.toArray⟩, .string ⟨m.old.toArray⟩, .bool m.has] 52
        have hX := hw.alloc (Nat.le_trans (Nat.le_refl _) hw.size) (.cells #[.int .i64 m.kind, .string ⟨m.key.toArray⟩, .string ⟨m.val.toArray⟩, .string ⟨m.old.toArray⟩, .bool m.has] 52)
        have hrX := rO.keep (Kept.ofBelow ((Below.refl w1.heap.size w1).alloc (Nat.le_refl _) (.cells #[.int .i64 m.kind, .string ⟨m.key.toArray⟩, .string ⟨m.val.toArray⟩, .string ⟨m.old.toArray⟩, .bool m.has] 52))) (rO.mono (S' := fun b => lo ≤ b) (fun b hS _ => Nat.le_trans hlw hS) HREP.out)
        have hlx : eb ≠ w1.heap.size ∧ rb ≠ w1.heap.size := by have := hw.size; have := b1.lt; have := b2.lt; omega
        generalize w1.alloc (.cells #[.int .i64 m.kind, .string ⟨m.key.toArray⟩, .string ⟨m.val.toArray⟩, .string ⟨m.old.toArray⟩, .bool m.has] 52) = w5 at kx hX hrX ⊢
        generalize w1.heap.size = xb at kx hlx ⊢
        have q1 := (b1.below hX b1.lt).cell (j := 1) rfl
        have q2 := (b1.below hX b1.lt).cell (j := 2) rfl
        have q3 := (b1.below hX b1.lt).free 1
        have q4 := (b1.below hX b1.lt).free 2
        have e0 := (b2.below hX b2.lt).cell hv0
        have f0 := (b2.below hX b2.lt).free k
        have y0 := kx.cell (j := 0) rfl
        have e1 := (b2.below hX b2.lt).cell hv1
        have f1 := (b2.below hX b2.lt).free (k + 1)
        have y1 := kx.cell (j := 1) rfl
        have e2 := (b2.below hX b2.lt).cell hv2
        have f2 := (b2.below hX b2.lt).free (k + 2)
        have y2 := kx.cell (j := 2) rfl
        have e3 := (b2.below hX b2.lt).cell hv3
        have f3 := (b2.below hX b2.lt).free (k + 3)
        have y3 := kx.cell (j := 3) rfl
        have e4 := (b2.below hX b2.lt).cell hv4
        have f4 := (b2.below hX b2.lt).free (k + 4)
        have y4 := kx.cell (j := 4) rfl
        clear hv0 hv1 hv2 hv3 hv4 hlx
        go_wp2_with fail
        go_end0
        refine ⟨[.int .i64 m.kind, .string ⟨m.key.toArray⟩, .string ⟨m.val.toArray⟩, .string ⟨m.old.toArray⟩, .bool m.has], fun es' p' x nx' h1 h2 => ?_, rfl, filled5 hR hB1 hB2 hne hlo.1 hlo.2 hbv b1 b2 HN.out hX (by simp [advS, HA.out]) hk0 hk1 hk2 hk3 hk4 (by have := HX.out; omega)⟩
        simp only [Option.some.injEq, Prod.mk.injEq] at h1
        obtain ⟨-, rfl⟩ := h1
        rw [HA.out] at h2
        simp only [Option.some.injEq, Prod.mk.injEq] at h2
        obtain ⟨rfl, rfl⟩ := h2
        have ne1 : ¬ lo ≤ eb := by omega
        have ne2 : ¬ lo ≤ rb := by omega
        exact rO.keep (((((((Kept.refl _ _).setCell _ _ ne1).setCell _ _ ne1).setCell _ _ ne1).setCell _ _ ne1).setCell _ _ ne1).setCell _ _ ne2) hrX
      · skip
        refine mix.callAt_step (by rfl) (fun K hK => ?_)
        go_simp
        have kx0 := (Blk.new w [.int .i64 0, .string ⟨#[]⟩, .string ⟨#[]⟩, .string ⟨#[]⟩, .bool false] 52).drew
        have hw0 : Below w.heap.size w (w.alloc (.cells #[.int .i64 0, .string ⟨#[]⟩, .string ⟨#[]⟩, .string ⟨#[]⟩, .bool false] 52)).drew := ((Below.refl _ _).alloc (Nat.le_refl _) _).drew
        have e0 : (w.alloc (.cells #[.int .i64 0, .string ⟨#[]⟩, .string ⟨#[]⟩, .string ⟨#[]⟩, .bool false] 52)).drew.heap.size = w.heap.size + 1 := by simp
        refine hK _ _ ⟨b1.below hw0 b1.lt, ?_⟩
        clear hK K
        rw [mix.wpMix_cons]
        simp only [List.map_nil, List.getD_cons_succ, List.getD_cons_zero]
        refine wpQuiet_nil ?_
        refine mix.callAt_step (by rfl) (fun K hK => ?_)
        go_simp
        refine (G (w.alloc (.cells #[.int .i64 0, .string ⟨#[]⟩, .string ⟨#[]⟩, .string ⟨#[]⟩, .bool false] 52)).drew hw0 (hR.below hw0 (Nat.le_refl _)) (by omega)).mono ?_
        rintro r w1 ⟨hw1, hg⟩
        have hw : Below w.heap.size w w1 := hw0.trans (hw1.mono hw0.size)
        have kx1 := kx0.below hw1 kx0.lt
        obtain ⟨cs, hrep, rfl⟩ := hg
        have HREP := Lib.hid hrep
        obtain rfl : cs = cO m := hrep
        simp only [packA, cO]
        go_wp2_with fail
        refine ⟨(b1.below hw b1.lt), ?_⟩
        rw [mix.wpMix_cons]
        simp only [List.map_cons, List.map_nil, List.getD_cons_succ, List.getD_cons_zero]
        refine BigFrame.wpQuiet_want rfl (fun K hK => ?_)
        refine entref.quiet_val (.tuple #[.agg #[.int .i64 m.kind, .string ⟨m.key.toArray⟩, .string ⟨m.val.toArray⟩, .string ⟨m.old.toArray⟩, .bool m.has], .int .i64 nx, .bool true]) (fun x hx => by go_simp) (hK _ ?_)
        clear hK K
        simp only [Act.put, List.setIfInBounds_toArray, List.set_cons_zero, List.set_cons_succ]
        refine BigFrame.wpQuiet_want rfl (fun K hK => ?_)
        refine entref.quiet_val (.agg #[.int .i64 m.kind, .string ⟨m.key.toArray⟩, .string ⟨m.val.toArray⟩, .string ⟨m.old.toArray⟩, .bool m.has]) (fun x hx => by go_simp) (hK _ ?_)
        clear hK K
        simp only [Act.put, List.setIfInBounds_toArray, List.set_cons_zero, List.set_cons_succ]
        refine BigFrame.wpQuiet_want rfl (fun K hK => ?_)
        refine entref.quiet_val (.int .i64 nx) (fun x hx => by go_simp) (hK _ ?_)
        clear hK K
        simp only [Act.put, List.setIfInBounds_toArray, List.set_cons_zero, List.set_cons_succ]
        refine BigFrame.wpQuiet_want rfl (fun K hK => ?_)
        refine entref.quiet_val (.bool true) (fun x hx => by go_simp) (hK _ ?_)
        clear hK K
        simp only [Act.put, List.setIfInBounds_toArray, List.set_cons_zero, List.set_cons_succ]
        refine wpQuiet_nil ?_
        have x0 := kx1.cell (j := 0) rfl
        have xf0 := kx1.free 0
        have x1 := kx1.cell (j := 1) rfl
        have xf1 := kx1.free 1
        have x2 := kx1.cell (j := 2) rfl
        have xf2 := kx1.free 2
        have x3 := kx1.cell (j := 3) rfl
        have xf3 := kx1.free 3
        have x4 := kx1.cell (j := 4) rfl
        have xf4 := kx1.free 4
        refine mix.callAt_step (by rfl) (fun K hK => ?_)
        go_simp
        have hlx : eb ≠ w.heap.size ∧ rb ≠ w.heap.size := by have := b1.lt; have := b2.lt; omega
        refine hK _ _ ⟨((((((b1.below hw b1.lt).other _ hlx.2).other _ hlx.2).other _ hlx.2).other _ hlx.2).other _ hlx.2), ?_⟩
        clear hK K
        rw [mix.wpMix_nil]
        simp only [List.map_cons, List.map_nil, List.getD_cons_succ, List.getD_cons_zero]
        refine BigFrame.wpQuiet_want rfl (fun K hK => ?_)
        refine entref.quiet_val (.int .i64 nx) (fun x hx => by go_simp) (hK _ ?_)
        clear hK K
        simp only [Act.put, List.setIfInBounds_toArray, List.set_cons_zero, List.set_cons_succ]
        refine BigFrame.wpQuiet_want rfl (fun K hK => ?_)
        refine entref.quiet_val (.bool true) (fun x hx => by go_simp) (hK _ ?_)
        clear hK K
        simp only [Act.put, List.setIfInBounds_toArray, List.set_cons_zero, List.set_cons_succ]
        refine wpQuiet_nil ?_
        have kx := (((((kx1.set 0 (.int .i64 m.kind)).set 1 (.string ⟨m.key.toArray⟩)).set 2 (.string ⟨m.val.toArray⟩)).set 3 (.string ⟨m.old.toArray⟩)).set 4 (.bool m.has))
        have hX := (((((hw.setCell (show w.heap.size ≤ (⟨w.heap.size, 0, none⟩ : Addr).block from Nat.le_refl _) (.int .i64 m.kind)).setCell (show w.heap.size ≤ (⟨w.heap.size, 1, none⟩ : Addr).block from Nat.le_refl _) (.string ⟨m.key.toArray⟩)).setCell (show w.heap.size ≤ (⟨w.heap.size, 2, none⟩ : Addr).block from Nat.le_refl _) (.string ⟨m.val.toArray⟩)).setCell (show w.heap.size ≤ (⟨w.heap.size, 3, none⟩ : Addr).block from Nat.le_refl _) (.string ⟨m.old.toArray⟩)).setCell (show w.heap.size ≤ (⟨w.heap.size, 4, none⟩ : Addr).block from Nat.le_refl _) (.bool m.has))
        clear x0 xf0 x1 xf1 x2 xf2 x3 xf3 x4 xf4
        have neX : ¬ (w.alloc (.cells #[.int .i64 0, .string ⟨#[]⟩, .string ⟨#[]⟩, .string ⟨#[]⟩, .bool false] 52)).drew.heap.size ≤ w.heap.size := by omega
        have hrX := rO.mono (S' := fun b => lo ≤ b) (fun b hS _ => by have hS : (w.alloc (.cells #[.int .i64 0, .string ⟨#[]⟩, .string ⟨#[]⟩, .string ⟨#[]⟩, .bool false] 52)).drew.heap.size ≤ b := hS; omega) (rO.keep ((((((Kept.refl _ w1).setCell ⟨w.heap.size, 0, none⟩ (.int .i64 m.kind) neX).setCell ⟨w.heap.size, 1, none⟩ (.string ⟨m.key.toArray⟩) neX).setCell ⟨w.heap.size, 2, none⟩ (.string ⟨m.val.toArray⟩) neX).setCell ⟨w.heap.size, 3, none⟩ (.string ⟨m.old.toArray⟩) neX).setCell ⟨w.heap.size, 4, none⟩ (.bool m.has) neX) HREP.out)
        generalize ((((w1.setCell ⟨w.heap.size, 0, none⟩ (.int .i64 m.kind)).setCell ⟨w.heap.size, 1, none⟩ (.string ⟨m.key.toArray⟩)).setCell ⟨w.heap.size, 2, none⟩ (.string ⟨m.val.toArray⟩)).setCell ⟨w.heap.size, 3, none⟩ (.string ⟨m.old.toArray⟩)).setCell ⟨w.heap.size, 4, none⟩ (.bool m.has) = w5 at kx hX hrX ⊢
        generalize w.heap.size = xb at kx hlx ⊢
        have q1 := (b1.below hX b1.lt).cell (j := 1) rfl
        have q2 := (b1.below hX b1.lt).cell (j := 2) rfl
        have q3 := (b1.below hX b1.lt).free 1
        have q4 := (b1.below hX b1.lt).free 2
        have e0 := (b2.below hX b2.lt).cell hv0
        have f0 := (b2.below hX b2.lt).free k
        have y0 := kx.cell (j := 0) rfl
        have e1 := (b2.below hX b2.lt).cell hv1
        have f1 := (b2.below hX b2.lt).free (k + 1)
        have y1 := kx.cell (j := 1) rfl
        have e2 := (b2.below hX b2.lt).cell hv2
        have f2 := (b2.below hX b2.lt).free (k + 2)
        have y2 := kx.cell (j := 2) rfl
        have e3 := (b2.below hX b2.lt).cell hv3
        have f3 := (b2.below hX b2.lt).free (k + 3)
        have y3 := kx.cell (j := 3) rfl
        have e4 := (b2.below hX b2.lt).cell hv4
        have f4 := (b2.below hX b2.lt).free (k + 4)
        have y4 := kx.cell (j := 4) rfl
        clear hv0 hv1 hv2 hv3 hv4 hlx
        go_wp2_with fail
        go_end0
        refine ⟨[.int .i64 m.kind, .string ⟨m.key.toArray⟩, .string ⟨m.val.toArray⟩, .string ⟨m.old.toArray⟩, .bool m.has], fun es' p' x nx' h1 h2 => ?_, rfl, filled5 hR hB1 hB2 hne hlo.1 hlo.2 hbv b1 b2 HN.out hX (by simp [advS, HA.out]) hk0 hk1 hk2 hk3 hk4 (by have := HX.out; omega)⟩
        simp only [Option.some.injEq, Prod.mk.injEq] at h1
        obtain ⟨-, rfl⟩ := h1
        rw [HA.out] at h2
        simp only [Option.some.injEq, Prod.mk.injEq] at h2
        obtain ⟨rfl, rfl⟩ := h2
        have ne1 : ¬ lo ≤ eb := by omega
        have ne2 : ¬ lo ≤ rb := by omega
        exact rO.keep (((((((Kept.refl _ _).setCell _ _ ne1).setCell _ _ ne1).setCell _ _ ne1).setCell _ _ ne1).setCell _ _ ne1).setCell _ _ ne2) hrX

def zcimg : List Value := mget.zIm
set_option maxRecDepth 100000 in
set_option maxHeartbeats 4000000 in
theorem img_any (B lo rb eb k : Nat) (bv : Value) (l : List UInt8) (ks : List Nat) (s : Option (List Value × Nat)) (w : World) (h : Rst B rb eb bv l ks s w) (hlo : rb < lo ∧ eb < lo) (hlw : lo ≤ w.heap.size) (hk0 : ks[k]? = some 4) (hk1 : ks[k + 1]? = some 4) (hk2 : ks[k + 2]? = some 1) (hk3 : ks[k + 3]? = some 5) (hk4 : ks[k + 4]? = some 5) (hl : l.length ≤ 9223372036854000000) :
    Calls Try.prog 71 #[.pointer (some ⟨rb, 0, none⟩), .pointer (some ⟨eb, k, none⟩), .func (.func 39) #[] #[]] w (DoneR rIm (getIm l) B lo rb eb k bv l ks s w) := by
  have H := Lib.hid h
  obtain ⟨hR, hB1, hB2, hne, hbv, hs⟩ := h
  cases s with
  | none =>
    obtain ⟨p, es, b1, b2, hn⟩ := hs
    have c2 := b1.cell (j := 2) rfl
    go_enter Try.func71, Try.ntmps71
    go_wp2_with fail
    go_end0
    exact stillR H.out zcimg rfl
  | some x =>
    obtain ⟨es, p⟩ := x
    obtain ⟨b1, b2, hn, hp⟩ := hs
    have c2' := b1.cell (j := 2) rfl
    have hst : ∀ (x y : Nat) (w : World) (a : Addr) (q : Mode), (store a (.complex .f64 x y) q).run Try.prog w = stored Try.prog w a (.complex .f64 x y) q := fun x y w a q => run_store Try.prog w a _ q rfl
    obtain ⟨v0, hv0⟩ := kd_at hn hk0
    obtain ⟨v1, hv1⟩ := kd_at hn hk1
    obtain ⟨v2, hv2⟩ := kd_at hn hk2
    obtain ⟨v3, hv3⟩ := kd_at hn hk3
    obtain ⟨v4, hv4⟩ := kd_at hn hk4
    have HN := Lib.hid hn
    have hd0 : Below w.heap.size w w.drew := (Below.refl _ _).drew
    have G := fun (w1 : World) (hb : Below w.heap.size w w1) (hR1 : Rd w1 bv l) (hp1 : p ≤ 9223372036854775000) => mget.getIm_any bv l p w1 hR1 hp1 hl
    clear hn
    cases hr : getIm l p with
    | none =>
      rw [hr] at G
      have HA := Lib.hid hr
      clear hr
      go_enter Try.func71, Try.ntmps71
      go_wp2_with fail
      refine mix.wp_region_fork (fun x => Blk x rb [bv, .int .i64 p, .bool true]) mix.noOper [0, 1, 2, 3, 4, 5, 6, 7, 8] 9 [([10, 11, 12, 13], 14), ([], 15)] [16, 17] 14 [([], 9), ([10, 11, 12, 13], 15)] [16, 17] (by kernel_rfl) (by kernel_rfl) (fun _ _ _ d _ h => by cases d <;> exact h) (b1) ?_
      simp only [List.map_cons, List.map_nil, List.getD_cons_succ, List.getD_cons_zero]
      refine BigFrame.wpQuiet_want rfl (fun K hK => ?_)
      refine entref.quiet_val (.func (.func 39) #[] #[]) (fun x hx => by have hc0 := hx.cell (j := 0) rfl; have hc1 := hx.cell (j := 1) rfl; go_simp) (hK _ ?_)
      clear hK K
      simp only [Act.put, List.setIfInBounds_toArray, List.set_cons_zero, List.set_cons_succ]
      refine BigFrame.wpQuiet_want rfl (fun K hK => ?_)
      refine entref.quiet_val (.pointer (some ⟨rb, 0, none⟩)) (fun x hx => by have hc0 := hx.cell (j := 0) rfl; have hc1 := hx.cell (j := 1) rfl; go_simp) (hK _ ?_)
      clear hK K
      simp only [Act.put, List.setIfInBounds_toArray, List.set_cons_zero, List.set_cons_succ]
      refine BigFrame.wpQuiet_want rfl (fun K hK => ?_)
      refine entref.quiet_val (.pointer (some ⟨rb, 0, none⟩)) (fun x hx => by have hc0 := hx.cell (j := 0) rfl; have hc1 := hx.cell (j := 1) rfl; go_simp) (hK _ ?_)
      clear hK K
      simp only [Act.put, List.setIfInBounds_toArray, List.set_cons_zero, List.set_cons_succ]
      refine BigFrame.wpQuiet_want rfl (fun K hK => ?_)
      refine entref.quiet_val (.pointer (some ⟨rb, 0, none⟩)) (fun x hx => by have hc0 := hx.cell (j := 0) rfl; have hc1 := hx.cell (j := 1) rfl; go_simp) (hK _ ?_)
      clear hK K
      simp only [Act.put, List.setIfInBounds_toArray, List.set_cons_zero, List.set_cons_succ]
      refine BigFrame.wpQuiet_want rfl (fun K hK => ?_)
      refine entref.quiet_val (bv) (fun x hx => by have hc0 := hx.cell (j := 0) rfl; have hc1 := hx.cell (j := 1) rfl; go_simp) (hK _ ?_)
      clear hK K
      simp only [Act.put, List.setIfInBounds_toArray, List.set_cons_zero, List.set_cons_succ]
      refine BigFrame.wpQuiet_want rfl (fun K hK => ?_)
      refine entref.quiet_val (.pointer (some ⟨rb, 0, none⟩)) (fun x hx => by have hc0 := hx.cell (j := 0) rfl; have hc1 := hx.cell (j := 1) rfl; go_simp) (hK _ ?_)
      clear hK K
      simp only [Act.put, List.setIfInBounds_toArray, List.set_cons_zero, List.set_cons_succ]
      refine BigFrame.wpQuiet_want rfl (fun K hK => ?_)
      refine entref.quiet_val (.pointer (some ⟨rb, 0, none⟩)) (fun x hx => by have hc0 := hx.cell (j := 0) rfl; have hc1 := hx.cell (j := 1) rfl; go_simp) (hK _ ?_)
      clear hK K
      simp only [Act.put, List.setIfInBounds_toArray, List.set_cons_zero, List.set_cons_succ]
      refine BigFrame.wpQuiet_want rfl (fun K hK => ?_)
      refine entref.quiet_val (.pointer (some ⟨rb, 1, none⟩)) (fun x hx => by have hc0 := hx.cell (j := 0) rfl; have hc1 := hx.cell (j := 1) rfl; go_simp) (hK _ ?_)
      clear hK K
      simp only [Act.put, List.setIfInBounds_toArray, List.set_cons_zero, List.set_cons_succ]
      refine BigFrame.wpQuiet_want rfl (fun K hK => ?_)
      refine entref.quiet_val (.int .i64 p) (fun x hx => by have hc0 := hx.cell (j := 0) rfl; have hc1 := hx.cell (j := 1) rfl; go_simp) (hK _ ?_)
      clear hK K
      simp only [Act.put, List.setIfInBounds_toArray, List.set_cons_zero, List.set_cons_succ]
      refine wpQuiet_nil ⟨?_, ?_⟩
      · skip
        refine mix.callAt_step (by rfl) (fun K hK => ?_)
        go_simp
        refine (G w.drew hd0 (hR.below hd0 (Nat.le_refl _)) (by omega)).mono ?_
        rintro r w1 ⟨hw0, hg⟩
        have hw : Below w.heap.size w w1 := hd0.trans hw0
        subst hg
        simp only [packA, mget.zIm]
        go_wp2_with fail
        refine ⟨(b1.below hw b1.lt), ?_⟩
        rw [mix.wpMix_cons]
        simp only [List.map_cons, List.map_nil, List.getD_cons_succ, List.getD_cons_zero]
        refine BigFrame.wpQuiet_want rfl (fun K hK => ?_)
        refine entref.quiet_val (.tuple #[.agg #[.complex .f64 0 0, .complex .f64 0 0, .int .i64 0, .slice none 0 0, .slice none 0 0], .int .i64 0, .bool false]) (fun x hx => by go_simp) (hK _ ?_)
        clear hK K
        simp only [Act.put, List.setIfInBounds_toArray, List.set_cons_zero, List.set_cons_succ]
        refine BigFrame.wpQuiet_want rfl (fun K hK => ?_)
        refine entref.quiet_val (.agg #[.complex .f64 0 0, .complex .f64 0 0, .int .i64 0, .slice none 0 0, .slice none 0 0]) (fun x hx => by go_simp) (hK _ ?_)
        clear hK K
        simp only [Act.put, List.setIfInBounds_toArray, List.set_cons_zero, List.set_cons_succ]
        refine BigFrame.wpQuiet_want rfl (fun K hK => ?_)
        refine entref.quiet_val (.int .i64 0) (fun x hx => by go_simp) (hK _ ?_)
        clear hK K
        simp only [Act.put, List.setIfInBounds_toArray, List.set_cons_zero, List.set_cons_succ]
        refine BigFrame.wpQuiet_want rfl (fun K hK => ?_)
        refine entref.quiet_val (.bool false) (fun x hx => by go_simp) (hK _ ?_)
        clear hK K
        simp only [Act.put, List.setIfInBounds_toArray, List.set_cons_zero, List.set_cons_succ]
        refine wpQuiet_nil ?_
        refine mix.callAt_step (by rfl) (fun K hK => ?_)
        go_simp
        refine hK _ _ ⟨(b1.below hw b1.lt).alloc _, ?_⟩
        clear hK K
        rw [mix.wpMix_cons]
        simp only [List.map_nil, List.getD_cons_succ, List.getD_cons_zero]
        refine wpQuiet_nil ?_
        refine mix.callAt_step (by rfl) (fun K hK => ?_)
        go_simp
        refine hK _ _ ⟨(b1.below hw b1.lt).alloc _, ?_⟩
        clear hK K
        rw [mix.wpMix_nil]
        simp only [List.map_cons, List.map_nil, List.getD_cons_succ, List.getD_cons_zero]
        refine BigFrame.wpQuiet_want rfl (fun K hK => ?_)
        refine entref.quiet_val (.int .i64 0) (fun x hx => by go_simp) (hK _ ?_)
        clear hK K
        simp only [Act.put, List.setIfInBounds_toArray, List.set_cons_zero, List.set_cons_succ]
        refine BigFrame.wpQuiet_want rfl (fun K hK => ?_)
        refine entref.quiet_val (.bool false) (fun x hx => by go_simp) (hK _ ?_)
        clear hK K
        simp only [Act.put, List.setIfInBounds_toArray, List.set_cons_zero, List.set_cons_succ]
        refine wpQuiet_nil ?_
        have kx := Blk.new w1 [.complex .f64 0 0, .complex .f64 0 0, .int .i64 0, .slice none 0 0, .slice none 0 0] 62
        have hX := hw.alloc (Nat.le_trans (Nat.le_refl _) hw.size) (.cells #[.complex .f64 0 0, .complex .f64 0 0, .int .i64 0, .slice none 0 0, .slice none 0 0] 62)
        have hlx : eb ≠ w1.heap.size ∧ rb ≠ w1.heap.size := by have := hw.size; have := b1.lt; have := b2.lt; omega
        generalize w1.alloc (.cells #[.complex .f64 0 0, .complex .f64 0 0, .int .i64 0, .slice none 0 0, .slice none 0 0] 62) = w5 at kx hX  ⊢
        generalize w1.heap.size = xb at kx hlx ⊢
        have q1 := (b1.below hX b1.lt).cell (j := 1) rfl
        have q2 := (b1.below hX b1.lt).cell (j := 2) rfl
        have q3 := (b1.below hX b1.lt).free 1
        have q4 := (b1.below hX b1.lt).free 2
        have e0 := (b2.below hX b2.lt).cell hv0
        have f0 := (b2.below hX b2.lt).free k
        have y0 := kx.cell (j := 0) rfl
        have e1 := (b2.below hX b2.lt).cell hv1
        have f1 := (b2.below hX b2.lt).free (k + 1)
        have y1 := kx.cell (j := 1) rfl
        have e2 := (b2.below hX b2.lt).cell hv2
        have f2 := (b2.below hX b2.lt).free (k + 2)
        have y2 := kx.cell (j := 2) rfl
        have e3 := (b2.below hX b2.lt).cell hv3
        have f3 := (b2.below hX b2.lt).free (k + 3)
        have y3 := kx.cell (j := 3) rfl
        have e4 := (b2.below hX b2.lt).cell hv4
        have f4 := (b2.below hX b2.lt).free (k + 4)
        have y4 := kx.cell (j := 4) rfl
        clear hv0 hv1 hv2 hv3 hv4 hlx
        go_wp2_with fail
        go_end0
        refine ⟨zcimg, fun es' p' x nx h1 h2 => ?_, rfl, failedK hR hB1 hB2 hne hlo.1 hbv b1 b2 HN.out hX (by simp [advS, HA.out])⟩
        simp only [Option.some.injEq, Prod.mk.injEq] at h1
        obtain ⟨-, rfl⟩ := h1
        rw [HA.out] at h2
        cases h2
      · skip
        refine mix.callAt_step (by rfl) (fun K hK => ?_)
        go_simp
        have kx0 := (Blk.new w [.complex .f64 0 0, .complex .f64 0 0, .int .i64 0, .slice none 0 0, .slice none 0 0] 62).drew
        have hw0 : Below w.heap.size w (w.alloc (.cells #[.complex .f64 0 0, .complex .f64 0 0, .int .i64 0, .slice none 0 0, .slice none 0 0] 62)).drew := ((Below.refl _ _).alloc (Nat.le_refl _) _).drew
        have e0 : (w.alloc (.cells #[.complex .f64 0 0, .complex .f64 0 0, .int .i64 0, .slice none 0 0, .slice none 0 0] 62)).drew.heap.size = w.heap.size + 1 := by simp
        refine hK _ _ ⟨b1.below hw0 b1.lt, ?_⟩
        clear hK K
        rw [mix.wpMix_cons]
        simp only [List.map_nil, List.getD_cons_succ, List.getD_cons_zero]
        refine wpQuiet_nil ?_
        refine mix.callAt_step (by rfl) (fun K hK => ?_)
        go_simp
        refine (G (w.alloc (.cells #[.complex .f64 0 0, .complex .f64 0 0, .int .i64 0, .slice none 0 0, .slice none 0 0] 62)).drew hw0 (hR.below hw0 (Nat.le_refl _)) (by omega)).mono ?_
        rintro r w1 ⟨hw1, hg⟩
        have hw : Below w.heap.size w w1 := hw0.trans (hw1.mono hw0.size)
        have kx1 := kx0.below hw1 kx0.lt
        subst hg
        simp only [packA, mget.zIm]
        go_wp2_with fail
        refine ⟨(b1.below hw b1.lt), ?_⟩
        rw [mix.wpMix_cons]
        simp only [List.map_cons, List.map_nil, List.getD_cons_succ, List.getD_cons_zero]
        refine BigFrame.wpQuiet_want rfl (fun K hK => ?_)
        refine entref.quiet_val (.tuple #[.agg #[.complex .f64 0 0, .complex .f64 0 0, .int .i64 0, .slice none 0 0, .slice none 0 0], .int .i64 0, .bool false]) (fun x hx => by go_simp) (hK _ ?_)
        clear hK K
        simp only [Act.put, List.setIfInBounds_toArray, List.set_cons_zero, List.set_cons_succ]
        refine BigFrame.wpQuiet_want rfl (fun K hK => ?_)
        refine entref.quiet_val (.agg #[.complex .f64 0 0, .complex .f64 0 0, .int .i64 0, .slice none 0 0, .slice none 0 0]) (fun x hx => by go_simp) (hK _ ?_)
        clear hK K
        simp only [Act.put, List.setIfInBounds_toArray, List.set_cons_zero, List.set_cons_succ]
        refine BigFrame.wpQuiet_want rfl (fun K hK => ?_)
        refine entref.quiet_val (.int .i64 0) (fun x hx => by go_simp) (hK _ ?_)
        clear hK K
        simp only [Act.put, List.setIfInBounds_toArray, List.set_cons_zero, List.set_cons_succ]
        refine BigFrame.wpQuiet_want rfl (fun K hK => ?_)
        refine entref.quiet_val (.bool false) (fun x hx => by go_simp) (hK _ ?_)
        clear hK K
        simp only [Act.put, List.setIfInBounds_toArray, List.set_cons_zero, List.set_cons_succ]
        refine wpQuiet_nil ?_
        have x0 := kx1.cell (j := 0) rfl
        have xf0 := kx1.free 0
        have x1 := kx1.cell (j := 1) rfl
        have xf1 := kx1.free 1
        have x2 := kx1.cell (j := 2) rfl
        have xf2 := kx1.free 2
        have x3 := kx1.cell (j := 3) rfl
        have xf3 := kx1.free 3
        have x4 := kx1.cell (j := 4) rfl
        have xf4 := kx1.free 4
        refine mix.callAt_step (by rfl) (fun K hK => ?_)
        go_simp
        have hlx : eb ≠ w.heap.size ∧ rb ≠ w.heap.size := by have := b1.lt; have := b2.lt; omega
        refine hK _ _ ⟨((((((b1.below hw b1.lt).other _ hlx.2).other _ hlx.2).other _ hlx.2).other _ hlx.2).other _ hlx.2), ?_⟩
        clear hK K
        rw [mix.wpMix_nil]
        simp only [List.map_cons, List.map_nil, List.getD_cons_succ, List.getD_cons_zero]
        refine BigFrame.wpQuiet_want rfl (fun K hK => ?_)
        refine entref.quiet_val (.int .i64 0) (fun x hx => by go_simp) (hK _ ?_)
        clear hK K
        simp only [Act.put, List.setIfInBounds_toArray, List.set_cons_zero, List.set_cons_succ]
        refine BigFrame.wpQuiet_want rfl (fun K hK => ?_)
        refine entref.quiet_val (.bool false) (fun x hx => by go_simp) (hK _ ?_)
        clear hK K
        simp only [Act.put, List.setIfInBounds_toArray, List.set_cons_zero, List.set_cons_succ]
        refine wpQuiet_nil ?_
        have kx := (((((kx1.set 0 (.complex .f64 0 0)).set 1 (.complex .f64 0 0)).set 2 (.int .i64 0)).set 3 (.slice none 0 0)).set 4 (.slice none 0 0))
        have hX := (((((hw.setCell (show w.heap.size ≤ (⟨w.heap.size, 0, none⟩ : Addr).block from Nat.le_refl _) (.complex .f64 0 0)).setCell (show w.heap.size ≤ (⟨w.heap.size, 1, none⟩ : Addr).block from Nat.le_refl _) (.complex .f64 0 0)).setCell (show w.heap.size ≤ (⟨w.heap.size, 2, none⟩ : Addr).block from Nat.le_refl _) (.int .i64 0)).setCell (show w.heap.size ≤ (⟨w.heap.size, 3, none⟩ : Addr).block from Nat.le_refl _) (.slice none 0 0)).setCell (show w.heap.size ≤ (⟨w.heap.size, 4, none⟩ : Addr).block from Nat.le_refl _) (.slice none 0 0))
        clear x0 xf0 x1 xf1 x2 xf2 x3 xf3 x4 xf4
        generalize ((((w1.setCell ⟨w.heap.size, 0, none⟩ (.complex .f64 0 0)).setCell ⟨w.heap.size, 1, none⟩ (.complex .f64 0 0)).setCell ⟨w.heap.size, 2, none⟩ (.int .i64 0)).setCell ⟨w.heap.size, 3, none⟩ (.slice none 0 0)).setCell ⟨w.heap.size, 4, none⟩ (.slice none 0 0) = w5 at kx hX  ⊢
        generalize w.heap.size = xb at kx hlx ⊢
        have q1 := (b1.below hX b1.lt).cell (j := 1) rfl
        have q2 := (b1.below hX b1.lt).cell (j := 2) rfl
        have q3 := (b1.below hX b1.lt).free 1
        have q4 := (b1.below hX b1.lt).free 2
        have e0 := (b2.below hX b2.lt).cell hv0
        have f0 := (b2.below hX b2.lt).free k
        have y0 := kx.cell (j := 0) rfl
        have e1 := (b2.below hX b2.lt).cell hv1
        have f1 := (b2.below hX b2.lt).free (k + 1)
        have y1 := kx.cell (j := 1) rfl
        have e2 := (b2.below hX b2.lt).cell hv2
        have f2 := (b2.below hX b2.lt).free (k + 2)
        have y2 := kx.cell (j := 2) rfl
        have e3 := (b2.below hX b2.lt).cell hv3
        have f3 := (b2.below hX b2.lt).free (k + 3)
        have y3 := kx.cell (j := 3) rfl
        have e4 := (b2.below hX b2.lt).cell hv4
        have f4 := (b2.below hX b2.lt).free (k + 4)
        have y4 := kx.cell (j := 4) rfl
        clear hv0 hv1 hv2 hv3 hv4 hlx
        go_wp2_with fail
        go_end0
        refine ⟨zcimg, fun es' p' x nx h1 h2 => ?_, rfl, failedK hR hB1 hB2 hne hlo.1 hbv b1 b2 HN.out hX (by simp [advS, HA.out])⟩
        simp only [Option.some.injEq, Prod.mk.injEq] at h1
        obtain ⟨-, rfl⟩ := h1
        rw [HA.out] at h2
        cases h2
    | some q =>
      obtain ⟨m, nx⟩ := q
      have hnx : nx ≤ l.length := (lawIm l p m nx hr).2.1
      have HX := Lib.hid hnx
      clear hnx
      rw [hr] at G
      have HA := Lib.hid hr
      clear hr
      go_enter Try.func71, Try.ntmps71
      go_wp2_with fail
      refine mix.wp_region_fork (fun x => Blk x rb [bv, .int .i64 p, .bool true]) mix.noOper [0, 1, 2, 3, 4, 5, 6, 7, 8] 9 [([10, 11, 12, 13], 14), ([], 15)] [16, 17] 14 [([], 9), ([10, 11, 12, 13], 15)] [16, 17] (by kernel_rfl) (by kernel_rfl) (fun _ _ _ d _ h => by cases d <;> exact h) (b1) ?_
      simp only [List.map_cons, List.map_nil, List.getD_cons_succ, List.getD_cons_zero]
      refine BigFrame.wpQuiet_want rfl (fun K hK => ?_)
      refine entref.quiet_val (.func (.func 39) #[] #[]) (fun x hx => by have hc0 := hx.cell (j := 0) rfl; have hc1 := hx.cell (j := 1) rfl; go_simp) (hK _ ?_)
      clear hK K
      simp only [Act.put, List.setIfInBounds_toArray, List.set_cons_zero, List.set_cons_succ]
      refine BigFrame.wpQuiet_want rfl (fun K hK => ?_)
      refine entref.quiet_val (.pointer (some ⟨rb, 0, none⟩)) (fun x hx => by have hc0 := hx.cell (j := 0) rfl; have hc1 := hx.cell (j := 1) rfl; go_simp) (hK _ ?_)
      clear hK K
      simp only [Act.put, List.setIfInBounds_toArray, List.set_cons_zero, List.set_cons_succ]
      refine BigFrame.wpQuiet_want rfl (fun K hK => ?_)
      refine entref.quiet_val (.pointer (some ⟨rb, 0, none⟩)) (fun x hx => by have hc0 := hx.cell (j := 0) rfl; have hc1 := hx.cell (j := 1) rfl; go_simp) (hK _ ?_)
      clear hK K
      simp only [Act.put, List.setIfInBounds_toArray, List.set_cons_zero, List.set_cons_succ]
      refine BigFrame.wpQuiet_want rfl (fun K hK => ?_)
      refine entref.quiet_val (.pointer (some ⟨rb, 0, none⟩)) (fun x hx => by have hc0 := hx.cell (j := 0) rfl; have hc1 := hx.cell (j := 1) rfl; go_simp) (hK _ ?_)
      clear hK K
      simp only [Act.put, List.setIfInBounds_toArray, List.set_cons_zero, List.set_cons_succ]
      refine BigFrame.wpQuiet_want rfl (fun K hK => ?_)
      refine entref.quiet_val (bv) (fun x hx => by have hc0 := hx.cell (j := 0) rfl; have hc1 := hx.cell (j := 1) rfl; go_simp) (hK _ ?_)
      clear hK K
      simp only [Act.put, List.setIfInBounds_toArray, List.set_cons_zero, List.set_cons_succ]
      refine BigFrame.wpQuiet_want rfl (fun K hK => ?_)
      refine entref.quiet_val (.pointer (some ⟨rb, 0, none⟩)) (fun x hx => by have hc0 := hx.cell (j := 0) rfl; have hc1 := hx.cell (j := 1) rfl; go_simp) (hK _ ?_)
      clear hK K
      simp only [Act.put, List.setIfInBounds_toArray, List.set_cons_zero, List.set_cons_succ]
      refine BigFrame.wpQuiet_want rfl (fun K hK => ?_)
      refine entref.quiet_val (.pointer (some ⟨rb, 0, none⟩)) (fun x hx => by have hc0 := hx.cell (j := 0) rfl; have hc1 := hx.cell (j := 1) rfl; go_simp) (hK _ ?_)
      clear hK K
      simp only [Act.put, List.setIfInBounds_toArray, List.set_cons_zero, List.set_cons_succ]
      refine BigFrame.wpQuiet_want rfl (fun K hK => ?_)
      refine entref.quiet_val (.pointer (some ⟨rb, 1, none⟩)) (fun x hx => by have hc0 := hx.cell (j := 0) rfl; have hc1 := hx.cell (j := 1) rfl; go_simp) (hK _ ?_)
      clear hK K
      simp only [Act.put, List.setIfInBounds_toArray, List.set_cons_zero, List.set_cons_succ]
      refine BigFrame.wpQuiet_want rfl (fun K hK => ?_)
      refine entref.quiet_val (.int .i64 p) (fun x hx => by have hc0 := hx.cell (j := 0) rfl; have hc1 := hx.cell (j := 1) rfl; go_simp) (hK _ ?_)
      clear hK K
      simp only [Act.put, List.setIfInBounds_toArray, List.set_cons_zero, List.set_cons_succ]
      refine wpQuiet_nil ⟨?_, ?_⟩
      · skip
        refine mix.callAt_step (by rfl) (fun K hK => ?_)
        go_simp
        refine (G w.drew hd0 (hR.below hd0 (Nat.le_refl _)) (by omega)).mono ?_
        rintro r w1 ⟨hw0, hg⟩
        have hw : Below w.heap.size w w1 := hd0.trans hw0
        obtain ⟨cs, hrep, rfl⟩ := hg
        have HREP := Lib.hid hrep
        obtain ⟨u3, u4, rfl, hl3, hl4⟩ := hrep
        obtain ⟨u3', rows3, e3, hrow3, hl30, a3, cap3, rfl, hd3⟩ := hl3
        simp only [List.cons.injEq, and_true] at e3
        subst e3
        obtain ⟨u4', rows4, e4, hrow4, hl40, a4, cap4, rfl, hd4⟩ := hl4
        simp only [List.cons.injEq, and_true] at e4
        subst e4
        clear hrow3 hl30 hd3 hrow4 hl40 hd4
        simp only [packA]
        go_wp2_with fail
        refine ⟨(b1.below hw b1.lt), ?_⟩
        rw [mix.wpMix_cons]
        simp only [List.map_cons, List.map_nil, List.getD_cons_succ, List.getD_cons_zero]
        refine BigFrame.wpQuiet_want rfl (fun K hK => ?_)
        refine entref.quiet_val (.tuple #[.agg #[.complex .f64 (flt.F m.floor.1) (flt.F m.floor.2), .complex .f64 (flt.F m.last.1) (flt.F m.last.2), .int .i64 m.gen, .slice a3 m.log.length cap3, .slice a4 m.seen.length cap4], .int .i64 nx, .bool true]) (fun x hx => by go_simp) (hK _ ?_)
        clear hK K
        simp only [Act.put, List.setIfInBounds_toArray, List.set_cons_zero, List.set_cons_succ]
        refine BigFrame.wpQuiet_want rfl (fun K hK => ?_)
        refine entref.quiet_val (.agg #[.complex .f64 (flt.F m.floor.1) (flt.F m.floor.2), .complex .f64 (flt.F m.last.1) (flt.F m.last.2), .int .i64 m.gen, .slice a3 m.log.length cap3, .slice a4 m.seen.length cap4]) (fun x hx => by go_simp) (hK _ ?_)
        clear hK K
        simp only [Act.put, List.setIfInBounds_toArray, List.set_cons_zero, List.set_cons_succ]
        refine BigFrame.wpQuiet_want rfl (fun K hK => ?_)
        refine entref.quiet_val (.int .i64 nx) (fun x hx => by go_simp) (hK _ ?_)
        clear hK K
        simp only [Act.put, List.setIfInBounds_toArray, List.set_cons_zero, List.set_cons_succ]
        refine BigFrame.wpQuiet_want rfl (fun K hK => ?_)
        refine entref.quiet_val (.bool true) (fun x hx => by go_simp) (hK _ ?_)
        clear hK K
        simp only [Act.put, List.setIfInBounds_toArray, List.set_cons_zero, List.set_cons_succ]
        refine wpQuiet_nil ?_
        refine mix.callAt_step (by rfl) (fun K hK => ?_)
        go_simp
        refine hK _ _ ⟨(b1.below hw b1.lt).alloc _, ?_⟩
        clear hK K
        rw [mix.wpMix_cons]
        simp only [List.map_nil, List.getD_cons_succ, List.getD_cons_zero]
        refine wpQuiet_nil ?_
        refine mix.callAt_step (by rfl) (fun K hK => ?_)
        go_simp
        refine hK _ _ ⟨(b1.below hw b1.lt).alloc _, ?_⟩
        clear hK K
        rw [mix.wpMix_nil]
        simp only [List.map_cons, List.map_nil, List.getD_cons_succ, List.getD_cons_zero]
        refine BigFrame.wpQuiet_want rfl (fun K hK => ?_)
        refine entref.quiet_val (.int .i64 nx) (fun x hx => by go_simp) (hK _ ?_)
        clear hK K
        simp only [Act.put, List.setIfInBounds_toArray, List.set_cons_zero, List.set_cons_succ]
        refine BigFrame.wpQuiet_want rfl (fun K hK => ?_)
        refine entref.quiet_val (.bool true) (fun x hx => by go_simp) (hK _ ?_)
        clear hK K
        simp only [Act.put, List.setIfInBounds_toArray, List.set_cons_zero, List.set_cons_succ]
        refine wpQuiet_nil ?_
        have kx := Blk.new w1 [.complex .f64 (flt.F m.floor.1) (flt.F m.floor.2), .complex .f64 (flt.F m.last.1) (flt.F m.last.2), .int .i64 m.gen, .slice a3 m.log.length cap3, .slice a4 m.seen.length cap4] 62
        have hX := hw.alloc (Nat.le_trans (Nat.le_refl _) hw.size) (.cells #[.complex .f64 (flt.F m.floor.1) (flt.F m.floor.2), .complex .f64 (flt.F m.last.1) (flt.F m.last.2), .int .i64 m.gen, .slice a3 m.log.length cap3, .slice a4 m.seen.length cap4] 62)
        have hrX := rIm.keep (Kept.ofBelow ((Below.refl w1.heap.size w1).alloc (Nat.le_refl _) (.cells #[.complex .f64 (flt.F m.floor.1) (flt.F m.floor.2), .complex .f64 (flt.F m.last.1) (flt.F m.last.2), .int .i64 m.gen, .slice a3 m.log.length cap3, .slice a4 m.seen.length cap4] 62))) (rIm.mono (S' := fun b => lo ≤ b) (fun b hS _ => Nat.le_trans hlw hS) HREP.out)
        have hlx : eb ≠ w1.heap.size ∧ rb ≠ w1.heap.size := by have := hw.size; have := b1.lt; have := b2.lt; omega
        generalize w1.alloc (.cells #[.complex .f64 (flt.F m.floor.1) (flt.F m.floor.2), .complex .f64 (flt.F m.last.1) (flt.F m.last.2), .int .i64 m.gen, .slice a3 m.log.length cap3, .slice a4 m.seen.length cap4] 62) = w5 at kx hX hrX ⊢
        generalize w1.heap.size = xb at kx hlx ⊢
        have q1 := (b1.below hX b1.lt).cell (j := 1) rfl
        have q2 := (b1.below hX b1.lt).cell (j := 2) rfl
        have q3 := (b1.below hX b1.lt).free 1
        have q4 := (b1.below hX b1.lt).free 2
        have e0 := (b2.below hX b2.lt).cell hv0
        have f0 := (b2.below hX b2.lt).free k
        have y0 := kx.cell (j := 0) rfl
        have e1 := (b2.below hX b2.lt).cell hv1
        have f1 := (b2.below hX b2.lt).free (k + 1)
        have y1 := kx.cell (j := 1) rfl
        have e2 := (b2.below hX b2.lt).cell hv2
        have f2 := (b2.below hX b2.lt).free (k + 2)
        have y2 := kx.cell (j := 2) rfl
        have e3 := (b2.below hX b2.lt).cell hv3
        have f3 := (b2.below hX b2.lt).free (k + 3)
        have y3 := kx.cell (j := 3) rfl
        have e4 := (b2.below hX b2.lt).cell hv4
        have f4 := (b2.below hX b2.lt).free (k + 4)
        have y4 := kx.cell (j := 4) rfl
        clear hv0 hv1 hv2 hv3 hv4 hlx
        go_wp2_with fail
        go_end0
        refine ⟨[.complex .f64 (flt.F m.floor.1) (flt.F m.floor.2), .complex .f64 (flt.F m.last.1) (flt.F m.last.2), .int .i64 m.gen, .slice a3 m.log.length cap3, .slice a4 m.seen.length cap4], fun es' p' x nx' h1 h2 => ?_, rfl, filled5 hR hB1 hB2 hne hlo.1 hlo.2 hbv b1 b2 HN.out hX (by simp [advS, HA.out]) hk0 hk1 hk2 hk3 hk4 (by have := HX.out; omega)⟩
        simp only [Option.some.injEq, Prod.mk.injEq] at h1
        obtain ⟨-, rfl⟩ := h1
        rw [HA.out] at h2
        simp only [Option.some.injEq, Prod.mk.injEq] at h2
        obtain ⟨rfl, rfl⟩ := h2
        have ne1 : ¬ lo ≤ eb := by omega
        have ne2 : ¬ lo ≤ rb := by omega
        exact rIm.keep (((((((Kept.refl _ _).setCell _ _ ne1).setCell _ _ ne1).setCell _ _ ne1).setCell _ _ ne1).setCell _ _ ne1).setCell _ _ ne2) hrX
      · skip
        refine mix.callAt_step (by rfl) (fun K hK => ?_)
        go_simp
        have kx0 := (Blk.new w [.complex .f64 0 0, .complex .f64 0 0, .int .i64 0, .slice none 0 0, .slice none 0 0] 62).drew
        have hw0 : Below w.heap.size w (w.alloc (.cells #[.complex .f64 0 0, .complex .f64 0 0, .int .i64 0, .slice none 0 0, .slice none 0 0] 62)).drew := ((Below.refl _ _).alloc (Nat.le_refl _) _).drew
        have e0 : (w.alloc (.cells #[.complex .f64 0 0, .complex .f64 0 0, .int .i64 0, .slice none 0 0, .slice none 0 0] 62)).drew.heap.size = w.heap.size + 1 := by simp
        refine hK _ _ ⟨b1.below hw0 b1.lt, ?_⟩
        clear hK K
        rw [mix.wpMix_cons]
        simp only [List.map_nil, List.getD_cons_succ, List.getD_cons_zero]
        refine wpQuiet_nil ?_
        refine mix.callAt_step (by rfl) (fun K hK => ?_)
        go_simp
        refine (G (w.alloc (.cells #[.complex .f64 0 0, .complex .f64 0 0, .int .i64 0, .slice none 0 0, .slice none 0 0] 62)).drew hw0 (hR.below hw0 (Nat.le_refl _)) (by omega)).mono ?_
        rintro r w1 ⟨hw1, hg⟩
        have hw : Below w.heap.size w w1 := hw0.trans (hw1.mono hw0.size)
        have kx1 := kx0.below hw1 kx0.lt
        obtain ⟨cs, hrep, rfl⟩ := hg
        have HREP := Lib.hid hrep
        obtain ⟨u3, u4, rfl, hl3, hl4⟩ := hrep
        obtain ⟨u3', rows3, e3, hrow3, hl30, a3, cap3, rfl, hd3⟩ := hl3
        simp only [List.cons.injEq, and_true] at e3
        subst e3
        obtain ⟨u4', rows4, e4, hrow4, hl40, a4, cap4, rfl, hd4⟩ := hl4
        simp only [List.cons.injEq, and_true] at e4
        subst e4
        clear hrow3 hl30 hd3 hrow4 hl40 hd4
        simp only [packA]
        go_wp2_with fail
        refine ⟨(b1.below hw b1.lt), ?_⟩
        rw [mix.wpMix_cons]
        simp only [List.map_cons, List.map_nil, List.getD_cons_succ, List.getD_cons_zero]
        refine BigFrame.wpQuiet_want rfl (fun K hK => ?_)
        refine entref.quiet_val (.tuple #[.agg #[.complex .f64 (flt.F m.floor.1) (flt.F m.floor.2), .complex .f64 (flt.F m.last.1) (flt.F m.last.2), .int .i64 m.gen, .slice a3 m.log.length cap3, .slice a4 m.seen.length cap4], .int .i64 nx, .bool true]) (fun x hx => by go_simp) (hK _ ?_)
        clear hK K
        simp only [Act.put, List.setIfInBounds_toArray, List.set_cons_zero, List.set_cons_succ]
        refine BigFrame.wpQuiet_want rfl (fun K hK => ?_)
        refine entref.quiet_val (.agg #[.complex .f64 (flt.F m.floor.1) (flt.F m.floor.2), .complex .f64 (flt.F m.last.1) (flt.F m.last.2), .int .i64 m.gen, .slice a3 m.log.length cap3, .slice a4 m.seen.length cap4]) (fun x hx => by go_simp) (hK _ ?_)
        clear hK K
        simp only [Act.put, List.setIfInBounds_toArray, List.set_cons_zero, List.set_cons_succ]
        refine BigFrame.wpQuiet_want rfl (fun K hK => ?_)
        refine entref.quiet_val (.int .i64 nx) (fun x hx => by go_simp) (hK _ ?_)
        clear hK K
        simp only [Act.put, List.setIfInBounds_toArray, List.set_cons_zero, List.set_cons_succ]
        refine BigFrame.wpQuiet_want rfl (fun K hK => ?_)
        refine entref.quiet_val (.bool true) (fun x hx => by go_simp) (hK _ ?_)
        clear hK K
        simp only [Act.put, List.setIfInBounds_toArray, List.set_cons_zero, List.set_cons_succ]
        refine wpQuiet_nil ?_
        have x0 := kx1.cell (j := 0) rfl
        have xf0 := kx1.free 0
        have x1 := kx1.cell (j := 1) rfl
        have xf1 := kx1.free 1
        have x2 := kx1.cell (j := 2) rfl
        have xf2 := kx1.free 2
        have x3 := kx1.cell (j := 3) rfl
        have xf3 := kx1.free 3
        have x4 := kx1.cell (j := 4) rfl
        have xf4 := kx1.free 4
        refine mix.callAt_step (by rfl) (fun K hK => ?_)
        go_simp
        have hlx : eb ≠ w.heap.size ∧ rb ≠ w.heap.size := by have := b1.lt; have := b2.lt; omega
        refine hK _ _ ⟨((((((b1.below hw b1.lt).other _ hlx.2).other _ hlx.2).other _ hlx.2).other _ hlx.2).other _ hlx.2), ?_⟩
        clear hK K
        rw [mix.wpMix_nil]
        simp only [List.map_cons, List.map_nil, List.getD_cons_succ, List.getD_cons_zero]
        refine BigFrame.wpQuiet_want rfl (fun K hK => ?_)
        refine entref.quiet_val (.int .i64 nx) (fun x hx => by go_simp) (hK _ ?_)
        clear hK K
        simp only [Act.put, List.setIfInBounds_toArray, List.set_cons_zero, List.set_cons_succ]
        refine BigFrame.wpQuiet_want rfl (fun K hK => ?_)
        refine entref.quiet_val (.bool true) (fun x hx => by go_simp) (hK _ ?_)
        clear hK K
        simp only [Act.put, List.setIfInBounds_toArray, List.set_cons_zero, List.set_cons_succ]
        refine wpQuiet_nil ?_
        have kx := (((((kx1.set 0 (.complex .f64 (flt.F m.floor.1) (flt.F m.floor.2))).set 1 (.complex .f64 (flt.F m.last.1) (flt.F m.last.2))).set 2 (.int .i64 m.gen)).set 3 (.slice a3 m.log.length cap3)).set 4 (.slice a4 m.seen.length cap4))
        have hX := (((((hw.setCell (show w.heap.size ≤ (⟨w.heap.size, 0, none⟩ : Addr).block from Nat.le_refl _) (.complex .f64 (flt.F m.floor.1) (flt.F m.floor.2))).setCell (show w.heap.size ≤ (⟨w.heap.size, 1, none⟩ : Addr).block from Nat.le_refl _) (.complex .f64 (flt.F m.last.1) (flt.F m.last.2))).setCell (show w.heap.size ≤ (⟨w.heap.size, 2, none⟩ : Addr).block from Nat.le_refl _) (.int .i64 m.gen)).setCell (show w.heap.size ≤ (⟨w.heap.size, 3, none⟩ : Addr).block from Nat.le_refl _) (.slice a3 m.log.length cap3)).setCell (show w.heap.size ≤ (⟨w.heap.size, 4, none⟩ : Addr).block from Nat.le_refl _) (.slice a4 m.seen.length cap4))
        clear x0 xf0 x1 xf1 x2 xf2 x3 xf3 x4 xf4
        have neX : ¬ (w.alloc (.cells #[.complex .f64 0 0, .complex .f64 0 0, .int .i64 0, .slice none 0 0, .slice none 0 0] 62)).drew.heap.size ≤ w.heap.size := by omega
        have hrX := rIm.mono (S' := fun b => lo ≤ b) (fun b hS _ => by have hS : (w.alloc (.cells #[.complex .f64 0 0, .complex .f64 0 0, .int .i64 0, .slice none 0 0, .slice none 0 0] 62)).drew.heap.size ≤ b := hS; omega) (rIm.keep ((((((Kept.refl _ w1).setCell ⟨w.heap.size, 0, none⟩ (.complex .f64 (flt.F m.floor.1) (flt.F m.floor.2)) neX).setCell ⟨w.heap.size, 1, none⟩ (.complex .f64 (flt.F m.last.1) (flt.F m.last.2)) neX).setCell ⟨w.heap.size, 2, none⟩ (.int .i64 m.gen) neX).setCell ⟨w.heap.size, 3, none⟩ (.slice a3 m.log.length cap3) neX).setCell ⟨w.heap.size, 4, none⟩ (.slice a4 m.seen.length cap4) neX) HREP.out)
        generalize ((((w1.setCell ⟨w.heap.size, 0, none⟩ (.complex .f64 (flt.F m.floor.1) (flt.F m.floor.2))).setCell ⟨w.heap.size, 1, none⟩ (.complex .f64 (flt.F m.last.1) (flt.F m.last.2))).setCell ⟨w.heap.size, 2, none⟩ (.int .i64 m.gen)).setCell ⟨w.heap.size, 3, none⟩ (.slice a3 m.log.length cap3)).setCell ⟨w.heap.size, 4, none⟩ (.slice a4 m.seen.length cap4) = w5 at kx hX hrX ⊢
        generalize w.heap.size = xb at kx hlx ⊢
        have q1 := (b1.below hX b1.lt).cell (j := 1) rfl
        have q2 := (b1.below hX b1.lt).cell (j := 2) rfl
        have q3 := (b1.below hX b1.lt).free 1
        have q4 := (b1.below hX b1.lt).free 2
        have e0 := (b2.below hX b2.lt).cell hv0
        have f0 := (b2.below hX b2.lt).free k
        have y0 := kx.cell (j := 0) rfl
        have e1 := (b2.below hX b2.lt).cell hv1
        have f1 := (b2.below hX b2.lt).free (k + 1)
        have y1 := kx.cell (j := 1) rfl
        have e2 := (b2.below hX b2.lt).cell hv2
        have f2 := (b2.below hX b2.lt).free (k + 2)
        have y2 := kx.cell (j := 2) rfl
        have e3 := (b2.below hX b2.lt).cell hv3
        have f3 := (b2.below hX b2.lt).free (k + 3)
        have y3 := kx.cell (j := 3) rfl
        have e4 := (b2.below hX b2.lt).cell hv4
        have f4 := (b2.below hX b2.lt).free (k + 4)
        have y4 := kx.cell (j := 4) rfl
        clear hv0 hv1 hv2 hv3 hv4 hlx
        go_wp2_with fail
        go_end0
        refine ⟨[.complex .f64 (flt.F m.floor.1) (flt.F m.floor.2), .complex .f64 (flt.F m.last.1) (flt.F m.last.2), .int .i64 m.gen, .slice a3 m.log.length cap3, .slice a4 m.seen.length cap4], fun es' p' x nx' h1 h2 => ?_, rfl, filled5 hR hB1 hB2 hne hlo.1 hlo.2 hbv b1 b2 HN.out hX (by simp [advS, HA.out]) hk0 hk1 hk2 hk3 hk4 (by have := HX.out; omega)⟩
        simp only [Option.some.injEq, Prod.mk.injEq] at h1
        obtain ⟨-, rfl⟩ := h1
        rw [HA.out] at h2
        simp only [Option.some.injEq, Prod.mk.injEq] at h2
        obtain ⟨rfl, rfl⟩ := h2
        have ne1 : ¬ lo ≤ eb := by omega
        have ne2 : ¬ lo ≤ rb := by omega
        exact rIm.keep (((((((Kept.refl _ _).setCell _ _ ne1).setCell _ _ ne1).setCell _ _ ne1).setCell _ _ ne1).setCell _ _ ne1).setCell _ _ ne2) hrX

end Go.Proofs.Ytolgbnpginifkaa.minto
