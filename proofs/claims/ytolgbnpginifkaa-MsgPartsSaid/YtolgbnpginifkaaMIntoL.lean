/- The contracts of msg.into: a field is read, or the reader isn't ok any more: at lists. -/
import Derived.Test.YtolgbnpginifkaaMInto
import Derived.Test.YtolgbnpginifkaaEntRef2
namespace Go.Proofs.Ytolgbnpginifkaa.minto
open Go.ChangeShapes Go.WideShapes Go.ChangeAt Go.RowKit codec st get blk rep ent msgd entget
open into (adv fI fT fB fV)
set_option linter.unusedVariables false

set_option maxRecDepth 100000 in
theorem ents_any (B lo rb eb k fb : Nat) (bv : Value) (l : List UInt8) (ks : List Nat) (s : Option (List Value × Nat)) (w : World) (h : Rst B rb eb bv l ks s w) (hlo : rb < lo ∧ eb < lo) (hlw : lo ≤ w.heap.size) (hk : ks[k]? = some 5) (hl : l.length ≤ 9223372036854000000)
    (hG : ∀ (p : Nat) (w1 : World), Below w.heap.size w w1 → Rd w1 bv l → p ≤ 9223372036854775000 → Calls Try.prog 89 #[bv, .int .i64 p, .pointer (some ⟨fb, 0, none⟩)] w1 (Got (rep.list rE) packV (.slice none 0 0) (getL getE l p) w1)) :
    Calls Try.prog 63 #[.pointer (some ⟨rb, 0, none⟩), .pointer (some ⟨eb, k, none⟩), .func (.func 89) #[] #[.pointer (some ⟨fb, 0, none⟩)]] w (DoneR (rep.list rE) (getL getE l) B lo rb eb k bv l ks s w) := by
  have H := Lib.hid h
  obtain ⟨hR, hB1, hB2, hne, hbv, hs⟩ := h
  cases s with
  | none =>
    obtain ⟨p, es, b1, b2, hn⟩ := hs
    have c2 := b1.cell (j := 2) rfl
    go_enter Try.func63, Try.ntmps63
    go_wp2_with fail
    go_end0
    exact stillR H.out [.int .i64 0] rfl
  | some x =>
    obtain ⟨es, p⟩ := x
    obtain ⟨b1, b2, hn, hp⟩ := hs
    have c2' := b1.cell (j := 2) rfl
    obtain ⟨u0, hu0⟩ : ∃ u, es[k]? = some u := kd_at hn hk
    have HN := Lib.hid hn
    have hd0 : Below w.heap.size w w.drew := (Below.refl _ _).drew
    have G := hG p w.drew hd0 (hR.below hd0 (Nat.le_refl _)) (by omega)
    clear hn hG
    cases hr : getL getE l p with
    | none =>
      rw [hr] at G
      have HA := Lib.hid hr
      clear hr
      go_enter Try.func63, Try.ntmps63
      go_wp2_with fail
      refine mix.wp_region_mix (fun x => Blk x rb [bv, .int .i64 p, .bool true]) mix.noOper [([0, 1, 2, 3, 4, 5, 6, 7, 8], 9)] [10, 11, 12, 13, 14, 15, 16] (by kernel_rfl) (by kernel_rfl) (fun _ _ _ d _ h => by cases d <;> exact h) ?_ ?_
      · exact b1
      rw [mix.wpMix_cons]
      simp only [List.map_cons, List.map_nil, List.getD_cons_succ, List.getD_cons_zero]
      refine BigFrame.wpQuiet_want rfl (fun K hK => ?_)
      refine entref.quiet_val (.func (.func 89) #[] #[.pointer (some ⟨fb, 0, none⟩)]) (fun x hx => by have hc0 := hx.cell (j := 0) rfl; have hc1 := hx.cell (j := 1) rfl; go_simp) (hK _ ?_)
      clear hK K
      simp only [Act.put, List.setIfInBounds_toArray, List.set_cons_zero, List.set_cons_succ]
      refine BigFrame.wpQuiet_want rfl (fun K hK => ?_)
      refine entref.quiet_val (.pointer (some ⟨rb, 0, none⟩)) (fun x hx => by have hc0 := hx.cell (j := 0) rfl; have hc1 := hx.cell (j := 1) rfl; go_simp) (hK _ ?_)
      clear hK K
      simp only [Act.put, List.setIfInBounds_toArray, List.set_cons_zero, List.set_cons_succ]
      refine BigFrame.wpQuiet_want rfl (fun K hK => ?_)
      refine entref.quiet_val (.pointer (some ⟨rb, 0, none⟩)) (fun x hx => by have hc0 := hx.cell (j := 0) rfl; have hc1 := hx.cell (j := 1) rfl; go_simp) (hK _ ?_)
      clear hK K
      simp only [Act.put, List.setIfInBounds_toArray, List.set_cons_zero, List.set_cons_succ]
      refine BigFrame.wpQuiet_want rfl (fun K hK => ?_)
      refine entref.quiet_val (.pointer (some ⟨rb, 0, none⟩)) (fun x hx => by have hc0 := hx.cell (j := 0) rfl; have hc1 := hx.cell (j := 1) rfl; go_simp) (hK _ ?_)
      clear hK K
      simp only [Act.put, List.setIfInBounds_toArray, List.set_cons_zero, List.set_cons_succ]
      refine BigFrame.wpQuiet_want rfl (fun K hK => ?_)
      refine entref.quiet_val (bv) (fun x hx => by have hc0 := hx.cell (j := 0) rfl; have hc1 := hx.cell (j := 1) rfl; go_simp) (hK _ ?_)
      clear hK K
      simp only [Act.put, List.setIfInBounds_toArray, List.set_cons_zero, List.set_cons_succ]
      refine BigFrame.wpQuiet_want rfl (fun K hK => ?_)
      refine entref.quiet_val (.pointer (some ⟨rb, 0, none⟩)) (fun x hx => by have hc0 := hx.cell (j := 0) rfl; have hc1 := hx.cell (j := 1) rfl; go_simp) (hK _ ?_)
      clear hK K
      simp only [Act.put, List.setIfInBounds_toArray, List.set_cons_zero, List.set_cons_succ]
      refine BigFrame.wpQuiet_want rfl (fun K hK => ?_)
      refine entref.quiet_val (.pointer (some ⟨rb, 0, none⟩)) (fun x hx => by have hc0 := hx.cell (j := 0) rfl; have hc1 := hx.cell (j := 1) rfl; go_simp) (hK _ ?_)
      clear hK K
      simp only [Act.put, List.setIfInBounds_toArray, List.set_cons_zero, List.set_cons_succ]
      refine BigFrame.wpQuiet_want rfl (fun K hK => ?_)
      refine entref.quiet_val (.pointer (some ⟨rb, 1, none⟩)) (fun x hx => by have hc0 := hx.cell (j := 0) rfl; have hc1 := hx.cell (j := 1) rfl; go_simp) (hK _ ?_)
      clear hK K
      simp only [Act.put, List.setIfInBounds_toArray, List.set_cons_zero, List.set_cons_succ]
      refine BigFrame.wpQuiet_want rfl (fun K hK => ?_)
      refine entref.quiet_val (.int .i64 p) (fun x hx => by have hc0 := hx.cell (j := 0) rfl; have hc1 := hx.cell (j := 1) rfl; go_simp) (hK _ ?_)
      clear hK K
      simp only [Act.put, List.setIfInBounds_toArray, List.set_cons_zero, List.set_cons_succ]
      refine wpQuiet_nil ?_
      refine mix.callAt_step (by rfl) (fun K hK => ?_)
      go_simp
      refine (G).mono ?_
      rintro r w1 ⟨hw0, hg⟩
      have hw : Below w.heap.size w w1 := hd0.trans hw0
      subst hg
      have c1 := (b1.below hw b1.lt).cell (j := 1) rfl
      have c2 := (b1.below hw b1.lt).cell (j := 2) rfl
      have fr1 := (b1.below hw b1.lt).free 1
      have fr2 := (b1.below hw b1.lt).free 2
      have c3 := (b2.below hw b2.lt).cell hu0
      have fr3 := (b2.below hw b2.lt).free k
      go_wp2_with fail
      refine ⟨(b1.below hw b1.lt), ?_⟩
      rw [mix.wpMix_nil]
      simp only [List.map_cons, List.map_nil, List.getD_cons_succ, List.getD_cons_zero]
      refine BigFrame.wpQuiet_want rfl (fun K hK => ?_)
      refine entref.quiet_val (.tuple #[.slice none 0 0, .int .i64 0, .bool false]) (fun x hx => by go_simp) (hK _ ?_)
      clear hK K
      simp only [Act.put, List.setIfInBounds_toArray, List.set_cons_zero, List.set_cons_succ]
      refine BigFrame.wpQuiet_want rfl (fun K hK => ?_)
      refine entref.quiet_val (.slice none 0 0) (fun x hx => by go_simp) (hK _ ?_)
      clear hK K
      simp only [Act.put, List.setIfInBounds_toArray, List.set_cons_zero, List.set_cons_succ]
      refine BigFrame.wpQuiet_want rfl (fun K hK => ?_)
      refine entref.quiet_val (.int .i64 0) (fun x hx => by go_simp) (hK _ ?_)
      clear hK K
      simp only [Act.put, List.setIfInBounds_toArray, List.set_cons_zero, List.set_cons_succ]
      refine BigFrame.wpQuiet_want rfl (fun K hK => ?_)
      refine entref.quiet_val (.bool false) (fun x hx => by go_simp) (hK _ ?_)
      clear hK K
      simp only [Act.put, List.setIfInBounds_toArray, List.set_cons_zero, List.set_cons_succ]
      refine BigFrame.wpQuiet_want rfl (fun K hK => ?_)
      refine entref.quiet_val (.slice none 0 0) (fun x hx => by go_simp) (hK _ ?_)
      clear hK K
      simp only [Act.put, List.setIfInBounds_toArray, List.set_cons_zero, List.set_cons_succ]
      refine BigFrame.wpQuiet_want rfl (fun K hK => ?_)
      refine entref.quiet_val (.int .i64 0) (fun x hx => by go_simp) (hK _ ?_)
      clear hK K
      simp only [Act.put, List.setIfInBounds_toArray, List.set_cons_zero, List.set_cons_succ]
      refine BigFrame.wpQuiet_want rfl (fun K hK => ?_)
      refine entref.quiet_val (.bool false) (fun x hx => by go_simp) (hK _ ?_)
      clear hK K
      simp only [Act.put, List.setIfInBounds_toArray, List.set_cons_zero, List.set_cons_succ]
      refine wpQuiet_nil ?_
      clear hu0
      go_wp2_with fail
      go_end0
      refine ⟨[.int .i64 0], fun es' p' x nx h1 h2 => ?_, rfl, failedK hR hB1 hB2 hne hlo.1 hbv b1 b2 HN.out hw (by simp [advS, HA.out])⟩
      simp only [Option.some.injEq, Prod.mk.injEq] at h1
      obtain ⟨-, rfl⟩ := h1
      rw [HA.out] at h2
      cases h2
    | some q =>
      obtain ⟨m, nx⟩ := q
      have hnx : nx ≤ l.length := (getL_law lawE l p m nx hr).2.1
      have HX := Lib.hid hnx
      clear hnx
      rw [hr] at G
      have HA := Lib.hid hr
      clear hr
      go_enter Try.func63, Try.ntmps63
      go_wp2_with fail
      refine mix.wp_region_mix (fun x => Blk x rb [bv, .int .i64 p, .bool true]) mix.noOper [([0, 1, 2, 3, 4, 5, 6, 7, 8], 9)] [10, 11, 12, 13, 14, 15, 16] (by kernel_rfl) (by kernel_rfl) (fun _ _ _ d _ h => by cases d <;> exact h) ?_ ?_
      · exact b1
      rw [mix.wpMix_cons]
      simp only [List.map_cons, List.map_nil, List.getD_cons_succ, List.getD_cons_zero]
      refine BigFrame.wpQuiet_want rfl (fun K hK => ?_)
      refine entref.quiet_val (.func (.func 89) #[] #[.pointer (some ⟨fb, 0, none⟩)]) (fun x hx => by have hc0 := hx.cell (j := 0) rfl; have hc1 := hx.cell (j := 1) rfl; go_simp) (hK _ ?_)
      clear hK K
      simp only [Act.put, List.setIfInBounds_toArray, List.set_cons_zero, List.set_cons_succ]
      refine BigFrame.wpQuiet_want rfl (fun K hK => ?_)
      refine entref.quiet_val (.pointer (some ⟨rb, 0, none⟩)) (fun x hx => by have hc0 := hx.cell (j := 0) rfl; have hc1 := hx.cell (j := 1) rfl; go_simp) (hK _ ?_)
      clear hK K
      simp only [Act.put, List.setIfInBounds_toArray, List.set_cons_zero, List.set_cons_succ]
      refine BigFrame.wpQuiet_want rfl (fun K hK => ?_)
      refine entref.quiet_val (.pointer (some ⟨rb, 0, none⟩)) (fun x hx => by have hc0 := hx.cell (j := 0) rfl; have hc1 := hx.cell (j := 1) rfl; go_simp) (hK _ ?_)
      clear hK K
      simp only [Act.put, List.setIfInBounds_toArray, List.set_cons_zero, List.set_cons_succ]
      refine BigFrame.wpQuiet_want rfl (fun K hK => ?_)
      refine entref.quiet_val (.pointer (some ⟨rb, 0, none⟩)) (fun x hx => by have hc0 := hx.cell (j := 0) rfl; have hc1 := hx.cell (j := 1) rfl; go_simp) (hK _ ?_)
      clear hK K
      simp only [Act.put, List.setIfInBounds_toArray, List.set_cons_zero, List.set_cons_succ]
      refine BigFrame.wpQuiet_want rfl (fun K hK => ?_)
      refine entref.quiet_val (bv) (fun x hx => by have hc0 := hx.cell (j := 0) rfl; have hc1 := hx.cell (j := 1) rfl; go_simp) (hK _ ?_)
      clear hK K
      simp only [Act.put, List.setIfInBounds_toArray, List.set_cons_zero, List.set_cons_succ]
      refine BigFrame.wpQuiet_want rfl (fun K hK => ?_)
      refine entref.quiet_val (.pointer (some ⟨rb, 0, none⟩)) (fun x hx => by have hc0 := hx.cell (j := 0) rfl; have hc1 := hx.cell (j := 1) rfl; go_simp) (hK _ ?_)
      clear hK K
      simp only [Act.put, List.setIfInBounds_toArray, List.set_cons_zero, List.set_cons_succ]
      refine BigFrame.wpQuiet_want rfl (fun K hK => ?_)
      refine entref.quiet_val (.pointer (some ⟨rb, 0, none⟩)) (fun x hx => by have hc0 := hx.cell (j := 0) rfl; have hc1 := hx.cell (j := 1) rfl; go_simp) (hK _ ?_)
      clear hK K
      simp only [Act.put, List.setIfInBounds_toArray, List.set_cons_zero, List.set_cons_succ]
      refine BigFrame.wpQuiet_want rfl (fun K hK => ?_)
      refine entref.quiet_val (.pointer (some ⟨rb, 1, none⟩)) (fun x hx => by have hc0 := hx.cell (j := 0) rfl; have hc1 := hx.cell (j := 1) rfl; go_simp) (hK _ ?_)
      clear hK K
      simp only [Act.put, List.setIfInBounds_toArray, List.set_cons_zero, List.set_cons_succ]
      refine BigFrame.wpQuiet_want rfl (fun K hK => ?_)
      refine entref.quiet_val (.int .i64 p) (fun x hx => by have hc0 := hx.cell (j := 0) rfl; have hc1 := hx.cell (j := 1) rfl; go_simp) (hK _ ?_)
      clear hK K
      simp only [Act.put, List.setIfInBounds_toArray, List.set_cons_zero, List.set_cons_succ]
      refine wpQuiet_nil ?_
      refine mix.callAt_step (by rfl) (fun K hK => ?_)
      go_simp
      refine (G).mono ?_
      rintro r w1 ⟨hw0, hg⟩
      have hw : Below w.heap.size w w1 := hd0.trans hw0
      obtain ⟨cs, hrep, rfl⟩ := hg
      obtain ⟨v, rows, rfl, hrow, hl0, a, cap, rfl, hd⟩ := hrep
      simp only [packV, List.headD_cons]
      have c1 := (b1.below hw b1.lt).cell (j := 1) rfl
      have c2 := (b1.below hw b1.lt).cell (j := 2) rfl
      have fr1 := (b1.below hw b1.lt).free 1
      have fr2 := (b1.below hw b1.lt).free 2
      have c3 := (b2.below hw b2.lt).cell hu0
      have fr3 := (b2.below hw b2.lt).free k
      go_wp2_with fail
      refine ⟨(b1.below hw b1.lt), ?_⟩
      rw [mix.wpMix_nil]
      simp only [List.map_cons, List.map_nil, List.getD_cons_succ, List.getD_cons_zero]
      refine BigFrame.wpQuiet_want rfl (fun K hK => ?_)
      refine entref.quiet_val (.tuple #[.slice a m.length cap, .int .i64 nx, .bool true]) (fun x hx => by go_simp) (hK _ ?_)
      clear hK K
      simp only [Act.put, List.setIfInBounds_toArray, List.set_cons_zero, List.set_cons_succ]
      refine BigFrame.wpQuiet_want rfl (fun K hK => ?_)
      refine entref.quiet_val (.slice a m.length cap) (fun x hx => by go_simp) (hK _ ?_)
      clear hK K
      simp only [Act.put, List.setIfInBounds_toArray, List.set_cons_zero, List.set_cons_succ]
      refine BigFrame.wpQuiet_want rfl (fun K hK => ?_)
      refine entref.quiet_val (.int .i64 nx) (fun x hx => by go_simp) (hK _ ?_)
      clear hK K
      simp only [Act.put, List.setIfInBounds_toArray, List.set_cons_zero, List.set_cons_succ]
      refine BigFrame.wpQuiet_want rfl (fun K hK => ?_)
      refine entref.quiet_val (.bool true) (fun x hx => by go_simp) (hK _ ?_)
      clear hK K
      simp only [Act.put, List.setIfInBounds_toArray, List.set_cons_zero, List.set_cons_succ]
      refine BigFrame.wpQuiet_want rfl (fun K hK => ?_)
      refine entref.quiet_val (.slice a m.length cap) (fun x hx => by go_simp) (hK _ ?_)
      clear hK K
      simp only [Act.put, List.setIfInBounds_toArray, List.set_cons_zero, List.set_cons_succ]
      refine BigFrame.wpQuiet_want rfl (fun K hK => ?_)
      refine entref.quiet_val (.int .i64 nx) (fun x hx => by go_simp) (hK _ ?_)
      clear hK K
      simp only [Act.put, List.setIfInBounds_toArray, List.set_cons_zero, List.set_cons_succ]
      refine BigFrame.wpQuiet_want rfl (fun K hK => ?_)
      refine entref.quiet_val (.bool true) (fun x hx => by go_simp) (hK _ ?_)
      clear hK K
      simp only [Act.put, List.setIfInBounds_toArray, List.set_cons_zero, List.set_cons_succ]
      refine wpQuiet_nil ?_
      clear hu0
      go_wp2_with fail
      go_end0
      refine ⟨[.slice a m.length cap], fun es' p' x nx' h1 h2 => ?_, rfl, filledK hR hB1 hB2 hne hlo.1 hlo.2 hbv b1 b2 HN.out hw (by simp [advS, HA.out, setAt]) hk (by have := HX.out; omega)⟩
      simp only [Option.some.injEq, Prod.mk.injEq] at h1
      obtain ⟨-, rfl⟩ := h1
      rw [HA.out] at h2
      simp only [Option.some.injEq, Prod.mk.injEq] at h2
      obtain ⟨rfl, rfl⟩ := h2
      have kept : Kept (fun b => lo ≤ b) w1 ((w1.setCell ⟨eb, k, none⟩ (.slice a m.length cap)).setCell ⟨rb, 1, none⟩ (.int .i64 nx)) := ((Kept.refl _ _).setCell _ _ (by simp only; omega)).setCell _ _ (by simp only; omega)
      exact (rep.list rE).keep kept ((rep.list rE).mono (fun b hS _ => Nat.le_trans hlw hS) ⟨_, rows, rfl, hrow, hl0, a, cap, rfl, hd⟩)

set_option maxRecDepth 100000 in
theorem mems_any (B lo rb eb k fb : Nat) (bv : Value) (l : List UInt8) (ks : List Nat) (s : Option (List Value × Nat)) (w : World) (h : Rst B rb eb bv l ks s w) (hlo : rb < lo ∧ eb < lo) (hlw : lo ≤ w.heap.size) (hk : ks[k]? = some 5) (hl : l.length ≤ 9223372036854000000)
    (hG : ∀ (p : Nat) (w1 : World), Below w.heap.size w w1 → Rd w1 bv l → p ≤ 9223372036854775000 → Calls Try.prog 90 #[bv, .int .i64 p, .pointer (some ⟨fb, 0, none⟩)] w1 (Got (rep.list rMem) packV (.slice none 0 0) (getL getMem l p) w1)) :
    Calls Try.prog 65 #[.pointer (some ⟨rb, 0, none⟩), .pointer (some ⟨eb, k, none⟩), .func (.func 90) #[] #[.pointer (some ⟨fb, 0, none⟩)]] w (DoneR (rep.list rMem) (getL getMem l) B lo rb eb k bv l ks s w) := by
  have H := Lib.hid h
  obtain ⟨hR, hB1, hB2, hne, hbv, hs⟩ := h
  cases s with
  | none =>
    obtain ⟨p, es, b1, b2, hn⟩ := hs
    have c2 := b1.cell (j := 2) rfl
    go_enter Try.func65, Try.ntmps65
    go_wp2_with fail
    go_end0
    exact stillR H.out [.int .i64 0] rfl
  | some x =>
    obtain ⟨es, p⟩ := x
    obtain ⟨b1, b2, hn, hp⟩ := hs
    have c2' := b1.cell (j := 2) rfl
    obtain ⟨u0, hu0⟩ : ∃ u, es[k]? = some u := kd_at hn hk
    have HN := Lib.hid hn
    have hd0 : Below w.heap.size w w.drew := (Below.refl _ _).drew
    have G := hG p w.drew hd0 (hR.below hd0 (Nat.le_refl _)) (by omega)
    clear hn hG
    cases hr : getL getMem l p with
    | none =>
      rw [hr] at G
      have HA := Lib.hid hr
      clear hr
      go_enter Try.func65, Try.ntmps65
      go_wp2_with fail
      refine mix.wp_region_mix (fun x => Blk x rb [bv, .int .i64 p, .bool true]) mix.noOper [([0, 1, 2, 3, 4, 5, 6, 7, 8], 9)] [10, 11, 12, 13, 14, 15, 16] (by kernel_rfl) (by kernel_rfl) (fun _ _ _ d _ h => by cases d <;> exact h) ?_ ?_
      · exact b1
      rw [mix.wpMix_cons]
      simp only [List.map_cons, List.map_nil, List.getD_cons_succ, List.getD_cons_zero]
      refine BigFrame.wpQuiet_want rfl (fun K hK => ?_)
      refine entref.quiet_val (.func (.func 90) #[] #[.pointer (some ⟨fb, 0, none⟩)]) (fun x hx => by have hc0 := hx.cell (j := 0) rfl; have hc1 := hx.cell (j := 1) rfl; go_simp) (hK _ ?_)
      clear hK K
      simp only [Act.put, List.setIfInBounds_toArray, List.set_cons_zero, List.set_cons_succ]
      refine BigFrame.wpQuiet_want rfl (fun K hK => ?_)
      refine entref.quiet_val (.pointer (some ⟨rb, 0, none⟩)) (fun x hx => by have hc0 := hx.cell (j := 0) rfl; have hc1 := hx.cell (j := 1) rfl; go_simp) (hK _ ?_)
      clear hK K
      simp only [Act.put, List.setIfInBounds_toArray, List.set_cons_zero, List.set_cons_succ]
      refine BigFrame.wpQuiet_want rfl (fun K hK => ?_)
      refine entref.quiet_val (.pointer (some ⟨rb, 0, none⟩)) (fun x hx => by have hc0 := hx.cell (j := 0) rfl; have hc1 := hx.cell (j := 1) rfl; go_simp) (hK _ ?_)
      clear hK K
      simp only [Act.put, List.setIfInBounds_toArray, List.set_cons_zero, List.set_cons_succ]
      refine BigFrame.wpQuiet_want rfl (fun K hK => ?_)
      refine entref.quiet_val (.pointer (some ⟨rb, 0, none⟩)) (fun x hx => by have hc0 := hx.cell (j := 0) rfl; have hc1 := hx.cell (j := 1) rfl; go_simp) (hK _ ?_)
      clear hK K
      simp only [Act.put, List.setIfInBounds_toArray, List.set_cons_zero, List.set_cons_succ]
      refine BigFrame.wpQuiet_want rfl (fun K hK => ?_)
      refine entref.quiet_val (bv) (fun x hx => by have hc0 := hx.cell (j := 0) rfl; have hc1 := hx.cell (j := 1) rfl; go_simp) (hK _ ?_)
      clear hK K
      simp only [Act.put, List.setIfInBounds_toArray, List.set_cons_zero, List.set_cons_succ]
      refine BigFrame.wpQuiet_want rfl (fun K hK => ?_)
      refine entref.quiet_val (.pointer (some ⟨rb, 0, none⟩)) (fun x hx => by have hc0 := hx.cell (j := 0) rfl; have hc1 := hx.cell (j := 1) rfl; go_simp) (hK _ ?_)
      clear hK K
      simp only [Act.put, List.setIfInBounds_toArray, List.set_cons_zero, List.set_cons_succ]
      refine BigFrame.wpQuiet_want rfl (fun K hK => ?_)
      refine entref.quiet_val (.pointer (some ⟨rb, 0, none⟩)) (fun x hx => by have hc0 := hx.cell (j := 0) rfl; have hc1 := hx.cell (j := 1) rfl; go_simp) (hK _ ?_)
      clear hK K
      simp only [Act.put, List.setIfInBounds_toArray, List.set_cons_zero, List.set_cons_succ]
      refine BigFrame.wpQuiet_want rfl (fun K hK => ?_)
      refine entref.quiet_val (.pointer (some ⟨rb, 1, none⟩)) (fun x hx => by have hc0 := hx.cell (j := 0) rfl; have hc1 := hx.cell (j := 1) rfl; go_simp) (hK _ ?_)
      clear hK K
      simp only [Act.put, List.setIfInBounds_toArray, List.set_cons_zero, List.set_cons_succ]
      refine BigFrame.wpQuiet_want rfl (fun K hK => ?_)
      refine entref.quiet_val (.int .i64 p) (fun x hx => by have hc0 := hx.cell (j := 0) rfl; have hc1 := hx.cell (j := 1) rfl; go_simp) (hK _ ?_)
      clear hK K
      simp only [Act.put, List.setIfInBounds_toArray, List.set_cons_zero, List.set_cons_succ]
      refine wpQuiet_nil ?_
      refine mix.callAt_step (by rfl) (fun K hK => ?_)
      go_simp
      refine (G).mono ?_
      rintro r w1 ⟨hw0, hg⟩
      have hw : Below w.heap.size w w1 := hd0.trans hw0
      subst hg
      have c1 := (b1.below hw b1.lt).cell (j := 1) rfl
      have c2 := (b1.below hw b1.lt).cell (j := 2) rfl
      have fr1 := (b1.below hw b1.lt).free 1
      have fr2 := (b1.below hw b1.lt).free 2
      have c3 := (b2.below hw b2.lt).cell hu0
      have fr3 := (b2.below hw b2.lt).free k
      go_wp2_with fail
      refine ⟨(b1.below hw b1.lt), ?_⟩
      rw [mix.wpMix_nil]
      simp only [List.map_cons, List.map_nil, List.getD_cons_succ, List.getD_cons_zero]
      refine BigFrame.wpQuiet_want rfl (fun K hK => ?_)
      refine entref.quiet_val (.tuple #[.slice none 0 0, .int .i64 0, .bool false]) (fun x hx => by go_simp) (hK _ ?_)
      clear hK K
      simp only [Act.put, List.setIfInBounds_toArray, List.set_cons_zero, List.set_cons_succ]
      refine BigFrame.wpQuiet_want rfl (fun K hK => ?_)
      refine entref.quiet_val (.slice none 0 0) (fun x hx => by go_simp) (hK _ ?_)
      clear hK K
      simp only [Act.put, List.setIfInBounds_toArray, List.set_cons_zero, List.set_cons_succ]
      refine BigFrame.wpQuiet_want rfl (fun K hK => ?_)
      refine entref.quiet_val (.int .i64 0) (fun x hx => by go_simp) (hK _ ?_)
      clear hK K
      simp only [Act.put, List.setIfInBounds_toArray, List.set_cons_zero, List.set_cons_succ]
      refine BigFrame.wpQuiet_want rfl (fun K hK => ?_)
      refine entref.quiet_val (.bool false) (fun x hx => by go_simp) (hK _ ?_)
      clear hK K
      simp only [Act.put, List.setIfInBounds_toArray, List.set_cons_zero, List.set_cons_succ]
      refine BigFrame.wpQuiet_want rfl (fun K hK => ?_)
      refine entref.quiet_val (.slice none 0 0) (fun x hx => by go_simp) (hK _ ?_)
      clear hK K
      simp only [Act.put, List.setIfInBounds_toArray, List.set_cons_zero, List.set_cons_succ]
      refine BigFrame.wpQuiet_want rfl (fun K hK => ?_)
      refine entref.quiet_val (.int .i64 0) (fun x hx => by go_simp) (hK _ ?_)
      clear hK K
      simp only [Act.put, List.setIfInBounds_toArray, List.set_cons_zero, List.set_cons_succ]
      refine BigFrame.wpQuiet_want rfl (fun K hK => ?_)
      refine entref.quiet_val (.bool false) (fun x hx => by go_simp) (hK _ ?_)
      clear hK K
      simp only [Act.put, List.setIfInBounds_toArray, List.set_cons_zero, List.set_cons_succ]
      refine wpQuiet_nil ?_
      clear hu0
      go_wp2_with fail
      go_end0
      refine ⟨[.int .i64 0], fun es' p' x nx h1 h2 => ?_, rfl, failedK hR hB1 hB2 hne hlo.1 hbv b1 b2 HN.out hw (by simp [advS, HA.out])⟩
      simp only [Option.some.injEq, Prod.mk.injEq] at h1
      obtain ⟨-, rfl⟩ := h1
      rw [HA.out] at h2
      cases h2
    | some q =>
      obtain ⟨m, nx⟩ := q
      have hnx : nx ≤ l.length := (getL_law lawMem l p m nx hr).2.1
      have HX := Lib.hid hnx
      clear hnx
      rw [hr] at G
      have HA := Lib.hid hr
      clear hr
      go_enter Try.func65, Try.ntmps65
      go_wp2_with fail
      refine mix.wp_region_mix (fun x => Blk x rb [bv, .int .i64 p, .bool true]) mix.noOper [([0, 1, 2, 3, 4, 5, 6, 7, 8], 9)] [10, 11, 12, 13, 14, 15, 16] (by kernel_rfl) (by kernel_rfl) (fun _ _ _ d _ h => by cases d <;> exact h) ?_ ?_
      · exact b1
      rw [mix.wpMix_cons]
      simp only [List.map_cons, List.map_nil, List.getD_cons_succ, List.getD_cons_zero]
      refine BigFrame.wpQuiet_want rfl (fun K hK => ?_)
      refine entref.quiet_val (.func (.func 90) #[] #[.pointer (some ⟨fb, 0, none⟩)]) (fun x hx => by have hc0 := hx.cell (j := 0) rfl; have hc1 := hx.cell (j := 1) rfl; go_simp) (hK _ ?_)
      clear hK K
      simp only [Act.put, List.setIfInBounds_toArray, List.set_cons_zero, List.set_cons_succ]
      refine BigFrame.wpQuiet_want rfl (fun K hK => ?_)
      refine entref.quiet_val (.pointer (some ⟨rb, 0, none⟩)) (fun x hx => by have hc0 := hx.cell (j := 0) rfl; have hc1 := hx.cell (j := 1) rfl; go_simp) (hK _ ?_)
      clear hK K
      simp only [Act.put, List.setIfInBounds_toArray, List.set_cons_zero, List.set_cons_succ]
      refine BigFrame.wpQuiet_want rfl (fun K hK => ?_)
      refine entref.quiet_val (.pointer (some ⟨rb, 0, none⟩)) (fun x hx => by have hc0 := hx.cell (j := 0) rfl; have hc1 := hx.cell (j := 1) rfl; go_simp) (hK _ ?_)
      clear hK K
      simp only [Act.put, List.setIfInBounds_toArray, List.set_cons_zero, List.set_cons_succ]
      refine BigFrame.wpQuiet_want rfl (fun K hK => ?_)
      refine entref.quiet_val (.pointer (some ⟨rb, 0, none⟩)) (fun x hx => by have hc0 := hx.cell (j := 0) rfl; have hc1 := hx.cell (j := 1) rfl; go_simp) (hK _ ?_)
      clear hK K
      simp only [Act.put, List.setIfInBounds_toArray, List.set_cons_zero, List.set_cons_succ]
      refine BigFrame.wpQuiet_want rfl (fun K hK => ?_)
      refine entref.quiet_val (bv) (fun x hx => by have hc0 := hx.cell (j := 0) rfl; have hc1 := hx.cell (j := 1) rfl; go_simp) (hK _ ?_)
      clear hK K
      simp only [Act.put, List.setIfInBounds_toArray, List.set_cons_zero, List.set_cons_succ]
      refine BigFrame.wpQuiet_want rfl (fun K hK => ?_)
      refine entref.quiet_val (.pointer (some ⟨rb, 0, none⟩)) (fun x hx => by have hc0 := hx.cell (j := 0) rfl; have hc1 := hx.cell (j := 1) rfl; go_simp) (hK _ ?_)
      clear hK K
      simp only [Act.put, List.setIfInBounds_toArray, List.set_cons_zero, List.set_cons_succ]
      refine BigFrame.wpQuiet_want rfl (fun K hK => ?_)
      refine entref.quiet_val (.pointer (some ⟨rb, 0, none⟩)) (fun x hx => by have hc0 := hx.cell (j := 0) rfl; have hc1 := hx.cell (j := 1) rfl; go_simp) (hK _ ?_)
      clear hK K
      simp only [Act.put, List.setIfInBounds_toArray, List.set_cons_zero, List.set_cons_succ]
      refine BigFrame.wpQuiet_want rfl (fun K hK => ?_)
      refine entref.quiet_val (.pointer (some ⟨rb, 1, none⟩)) (fun x hx => by have hc0 := hx.cell (j := 0) rfl; have hc1 := hx.cell (j := 1) rfl; go_simp) (hK _ ?_)
      clear hK K
      simp only [Act.put, List.setIfInBounds_toArray, List.set_cons_zero, List.set_cons_succ]
      refine BigFrame.wpQuiet_want rfl (fun K hK => ?_)
      refine entref.quiet_val (.int .i64 p) (fun x hx => by have hc0 := hx.cell (j := 0) rfl; have hc1 := hx.cell (j := 1) rfl; go_simp) (hK _ ?_)
      clear hK K
      simp only [Act.put, List.setIfInBounds_toArray, List.set_cons_zero, List.set_cons_succ]
      refine wpQuiet_nil ?_
      refine mix.callAt_step (by rfl) (fun K hK => ?_)
      go_simp
      refine (G).mono ?_
      rintro r w1 ⟨hw0, hg⟩
      have hw : Below w.heap.size w w1 := hd0.trans hw0
      obtain ⟨cs, hrep, rfl⟩ := hg
      obtain ⟨v, rows, rfl, hrow, hl0, a, cap, rfl, hd⟩ := hrep
      simp only [packV, List.headD_cons]
      have c1 := (b1.below hw b1.lt).cell (j := 1) rfl
      have c2 := (b1.below hw b1.lt).cell (j := 2) rfl
      have fr1 := (b1.below hw b1.lt).free 1
      have fr2 := (b1.below hw b1.lt).free 2
      have c3 := (b2.below hw b2.lt).cell hu0
      have fr3 := (b2.below hw b2.lt).free k
      go_wp2_with fail
      refine ⟨(b1.below hw b1.lt), ?_⟩
      rw [mix.wpMix_nil]
      simp only [List.map_cons, List.map_nil, List.getD_cons_succ, List.getD_cons_zero]
      refine BigFrame.wpQuiet_want rfl (fun K hK => ?_)
      refine entref.quiet_val (.tuple #[.slice a m.length cap, .int .i64 nx, .bool true]) (fun x hx => by go_simp) (hK _ ?_)
      clear hK K
      simp only [Act.put, List.setIfInBounds_toArray, List.set_cons_zero, List.set_cons_succ]
      refine BigFrame.wpQuiet_want rfl (fun K hK => ?_)
      refine entref.quiet_val (.slice a m.length cap) (fun x hx => by go_simp) (hK _ ?_)
      clear hK K
      simp only [Act.put, List.setIfInBounds_toArray, List.set_cons_zero, List.set_cons_succ]
      refine BigFrame.wpQuiet_want rfl (fun K hK => ?_)
      refine entref.quiet_val (.int .i64 nx) (fun x hx => by go_simp) (hK _ ?_)
      clear hK K
      simp only [Act.put, List.setIfInBounds_toArray, List.set_cons_zero, List.set_cons_succ]
      refine BigFrame.wpQuiet_want rfl (fun K hK => ?_)
      refine entref.quiet_val (.bool true) (fun x hx => by go_simp) (hK _ ?_)
      clear hK K
      simp only [Act.put, List.setIfInBounds_toArray, List.set_cons_zero, List.set_cons_succ]
      refine BigFrame.wpQuiet_want rfl (fun K hK => ?_)
      refine entref.quiet_val (.slice a m.length cap) (fun x hx => by go_simp) (hK _ ?_)
      clear hK K
      simp only [Act.put, List.setIfInBounds_toArray, List.set_cons_zero, List.set_cons_succ]
      refine BigFrame.wpQuiet_want rfl (fun K hK => ?_)
      refine entref.quiet_val (.int .i64 nx) (fun x hx => by go_simp) (hK _ ?_)
      clear hK K
      simp only [Act.put, List.setIfInBounds_toArray, List.set_cons_zero, List.set_cons_succ]
      refine BigFrame.wpQuiet_want rfl (fun K hK => ?_)
      refine entref.quiet_val (.bool true) (fun x hx => by go_simp) (hK _ ?_)
      clear hK K
      simp only [Act.put, List.setIfInBounds_toArray, List.set_cons_zero, List.set_cons_succ]
      refine wpQuiet_nil ?_
      clear hu0
      go_wp2_with fail
      go_end0
      refine ⟨[.slice a m.length cap], fun es' p' x nx' h1 h2 => ?_, rfl, filledK hR hB1 hB2 hne hlo.1 hlo.2 hbv b1 b2 HN.out hw (by simp [advS, HA.out, setAt]) hk (by have := HX.out; omega)⟩
      simp only [Option.some.injEq, Prod.mk.injEq] at h1
      obtain ⟨-, rfl⟩ := h1
      rw [HA.out] at h2
      simp only [Option.some.injEq, Prod.mk.injEq] at h2
      obtain ⟨rfl, rfl⟩ := h2
      have kept : Kept (fun b => lo ≤ b) w1 ((w1.setCell ⟨eb, k, none⟩ (.slice a m.length cap)).setCell ⟨rb, 1, none⟩ (.int .i64 nx)) := ((Kept.refl _ _).setCell _ _ (by simp only; omega)).setCell _ _ (by simp only; omega)
      exact (rep.list rMem).keep kept ((rep.list rMem).mono (fun b hS _ => Nat.le_trans hlw hS) ⟨_, rows, rfl, hrow, hl0, a, cap, rfl, hd⟩)

set_option maxRecDepth 100000 in
theorem vws_any (B lo rb eb k fb : Nat) (bv : Value) (l : List UInt8) (ks : List Nat) (s : Option (List Value × Nat)) (w : World) (h : Rst B rb eb bv l ks s w) (hlo : rb < lo ∧ eb < lo) (hlw : lo ≤ w.heap.size) (hk : ks[k]? = some 5) (hl : l.length ≤ 9223372036854000000)
    (hG : ∀ (p : Nat) (w1 : World), Below w.heap.size w w1 → Rd w1 bv l → p ≤ 9223372036854775000 → Calls Try.prog 92 #[bv, .int .i64 p, .pointer (some ⟨fb, 0, none⟩)] w1 (Got (rep.list rVw) packV (.slice none 0 0) (getL getVw l p) w1)) :
    Calls Try.prog 68 #[.pointer (some ⟨rb, 0, none⟩), .pointer (some ⟨eb, k, none⟩), .func (.func 92) #[] #[.pointer (some ⟨fb, 0, none⟩)]] w (DoneR (rep.list rVw) (getL getVw l) B lo rb eb k bv l ks s w) := by
  have H := Lib.hid h
  obtain ⟨hR, hB1, hB2, hne, hbv, hs⟩ := h
  cases s with
  | none =>
    obtain ⟨p, es, b1, b2, hn⟩ := hs
    have c2 := b1.cell (j := 2) rfl
    go_enter Try.func68, Try.ntmps68
    go_wp2_with fail
    go_end0
    exact stillR H.out [.int .i64 0] rfl
  | some x =>
    obtain ⟨es, p⟩ := x
    obtain ⟨b1, b2, hn, hp⟩ := hs
    have c2' := b1.cell (j := 2) rfl
    obtain ⟨u0, hu0⟩ : ∃ u, es[k]? = some u := kd_at hn hk
    have HN := Lib.hid hn
    have hd0 : Below w.heap.size w w.drew := (Below.refl _ _).drew
    have G := hG p w.drew hd0 (hR.below hd0 (Nat.le_refl _)) (by omega)
    clear hn hG
    cases hr : getL getVw l p with
    | none =>
      rw [hr] at G
      have HA := Lib.hid hr
      clear hr
      go_enter Try.func68, Try.ntmps68
      go_wp2_with fail
      refine mix.wp_region_mix (fun x => Blk x rb [bv, .int .i64 p, .bool true]) mix.noOper [([0, 1, 2, 3, 4, 5, 6, 7, 8], 9)] [10, 11, 12, 13, 14, 15, 16] (by kernel_rfl) (by kernel_rfl) (fun _ _ _ d _ h => by cases d <;> exact h) ?_ ?_
      · exact b1
      rw [mix.wpMix_cons]
      simp only [List.map_cons, List.map_nil, List.getD_cons_succ, List.getD_cons_zero]
      refine BigFrame.wpQuiet_want rfl (fun K hK => ?_)
      refine entref.quiet_val (.func (.func 92) #[] #[.pointer (some ⟨fb, 0, none⟩)]) (fun x hx => by have hc0 := hx.cell (j := 0) rfl; have hc1 := hx.cell (j := 1) rfl; go_simp) (hK _ ?_)
      clear hK K
      simp only [Act.put, List.setIfInBounds_toArray, List.set_cons_zero, List.set_cons_succ]
      refine BigFrame.wpQuiet_want rfl (fun K hK => ?_)
      refine entref.quiet_val (.pointer (some ⟨rb, 0, none⟩)) (fun x hx => by have hc0 := hx.cell (j := 0) rfl; have hc1 := hx.cell (j := 1) rfl; go_simp) (hK _ ?_)
      clear hK K
      simp only [Act.put, List.setIfInBounds_toArray, List.set_cons_zero, List.set_cons_succ]
      refine BigFrame.wpQuiet_want rfl (fun K hK => ?_)
      refine entref.quiet_val (.pointer (some ⟨rb, 0, none⟩)) (fun x hx => by have hc0 := hx.cell (j := 0) rfl; have hc1 := hx.cell (j := 1) rfl; go_simp) (hK _ ?_)
      clear hK K
      simp only [Act.put, List.setIfInBounds_toArray, List.set_cons_zero, List.set_cons_succ]
      refine BigFrame.wpQuiet_want rfl (fun K hK => ?_)
      refine entref.quiet_val (.pointer (some ⟨rb, 0, none⟩)) (fun x hx => by have hc0 := hx.cell (j := 0) rfl; have hc1 := hx.cell (j := 1) rfl; go_simp) (hK _ ?_)
      clear hK K
      simp only [Act.put, List.setIfInBounds_toArray, List.set_cons_zero, List.set_cons_succ]
      refine BigFrame.wpQuiet_want rfl (fun K hK => ?_)
      refine entref.quiet_val (bv) (fun x hx => by have hc0 := hx.cell (j := 0) rfl; have hc1 := hx.cell (j := 1) rfl; go_simp) (hK _ ?_)
      clear hK K
      simp only [Act.put, List.setIfInBounds_toArray, List.set_cons_zero, List.set_cons_succ]
      refine BigFrame.wpQuiet_want rfl (fun K hK => ?_)
      refine entref.quiet_val (.pointer (some ⟨rb, 0, none⟩)) (fun x hx => by have hc0 := hx.cell (j := 0) rfl; have hc1 := hx.cell (j := 1) rfl; go_simp) (hK _ ?_)
      clear hK K
      simp only [Act.put, List.setIfInBounds_toArray, List.set_cons_zero, List.set_cons_succ]
      refine BigFrame.wpQuiet_want rfl (fun K hK => ?_)
      refine entref.quiet_val (.pointer (some ⟨rb, 0, none⟩)) (fun x hx => by have hc0 := hx.cell (j := 0) rfl; have hc1 := hx.cell (j := 1) rfl; go_simp) (hK _ ?_)
      clear hK K
      simp only [Act.put, List.setIfInBounds_toArray, List.set_cons_zero, List.set_cons_succ]
      refine BigFrame.wpQuiet_want rfl (fun K hK => ?_)
      refine entref.quiet_val (.pointer (some ⟨rb, 1, none⟩)) (fun x hx => by have hc0 := hx.cell (j := 0) rfl; have hc1 := hx.cell (j := 1) rfl; go_simp) (hK _ ?_)
      clear hK K
      simp only [Act.put, List.setIfInBounds_toArray, List.set_cons_zero, List.set_cons_succ]
      refine BigFrame.wpQuiet_want rfl (fun K hK => ?_)
      refine entref.quiet_val (.int .i64 p) (fun x hx => by have hc0 := hx.cell (j := 0) rfl; have hc1 := hx.cell (j := 1) rfl; go_simp) (hK _ ?_)
      clear hK K
      simp only [Act.put, List.setIfInBounds_toArray, List.set_cons_zero, List.set_cons_succ]
      refine wpQuiet_nil ?_
      refine mix.callAt_step (by rfl) (fun K hK => ?_)
      go_simp
      refine (G).mono ?_
      rintro r w1 ⟨hw0, hg⟩
      have hw : Below w.heap.size w w1 := hd0.trans hw0
      subst hg
      have c1 := (b1.below hw b1.lt).cell (j := 1) rfl
      have c2 := (b1.below hw b1.lt).cell (j := 2) rfl
      have fr1 := (b1.below hw b1.lt).free 1
      have fr2 := (b1.below hw b1.lt).free 2
      have c3 := (b2.below hw b2.lt).cell hu0
      have fr3 := (b2.below hw b2.lt).free k
      go_wp2_with fail
      refine ⟨(b1.below hw b1.lt), ?_⟩
      rw [mix.wpMix_nil]
      simp only [List.map_cons, List.map_nil, List.getD_cons_succ, List.getD_cons_zero]
      refine BigFrame.wpQuiet_want rfl (fun K hK => ?_)
      refine entref.quiet_val (.tuple #[.slice none 0 0, .int .i64 0, .bool false]) (fun x hx => by go_simp) (hK _ ?_)
      clear hK K
      simp only [Act.put, List.setIfInBounds_toArray, List.set_cons_zero, List.set_cons_succ]
      refine BigFrame.wpQuiet_want rfl (fun K hK => ?_)
      refine entref.quiet_val (.slice none 0 0) (fun x hx => by go_simp) (hK _ ?_)
      clear hK K
      simp only [Act.put, List.setIfInBounds_toArray, List.set_cons_zero, List.set_cons_succ]
      refine BigFrame.wpQuiet_want rfl (fun K hK => ?_)
      refine entref.quiet_val (.int .i64 0) (fun x hx => by go_simp) (hK _ ?_)
      clear hK K
      simp only [Act.put, List.setIfInBounds_toArray, List.set_cons_zero, List.set_cons_succ]
      refine BigFrame.wpQuiet_want rfl (fun K hK => ?_)
      refine entref.quiet_val (.bool false) (fun x hx => by go_simp) (hK _ ?_)
      clear hK K
      simp only [Act.put, List.setIfInBounds_toArray, List.set_cons_zero, List.set_cons_succ]
      refine BigFrame.wpQuiet_want rfl (fun K hK => ?_)
      refine entref.quiet_val (.slice none 0 0) (fun x hx => by go_simp) (hK _ ?_)
      clear hK K
      simp only [Act.put, List.setIfInBounds_toArray, List.set_cons_zero, List.set_cons_succ]
      refine BigFrame.wpQuiet_want rfl (fun K hK => ?_)
      refine entref.quiet_val (.int .i64 0) (fun x hx => by go_simp) (hK _ ?_)
      clear hK K
      simp only [Act.put, List.setIfInBounds_toArray, List.set_cons_zero, List.set_cons_succ]
      refine BigFrame.wpQuiet_want rfl (fun K hK => ?_)
      refine entref.quiet_val (.bool false) (fun x hx => by go_simp) (hK _ ?_)
      clear hK K
      simp only [Act.put, List.setIfInBounds_toArray, List.set_cons_zero, List.set_cons_succ]
      refine wpQuiet_nil ?_
      clear hu0
      go_wp2_with fail
      go_end0
      refine ⟨[.int .i64 0], fun es' p' x nx h1 h2 => ?_, rfl, failedK hR hB1 hB2 hne hlo.1 hbv b1 b2 HN.out hw (by simp [advS, HA.out])⟩
      simp only [Option.some.injEq, Prod.mk.injEq] at h1
      obtain ⟨-, rfl⟩ := h1
      rw [HA.out] at h2
      cases h2
    | some q =>
      obtain ⟨m, nx⟩ := q
      have hnx : nx ≤ l.length := (getL_law lawVw l p m nx hr).2.1
      have HX := Lib.hid hnx
      clear hnx
      rw [hr] at G
      have HA := Lib.hid hr
      clear hr
      go_enter Try.func68, Try.ntmps68
      go_wp2_with fail
      refine mix.wp_region_mix (fun x => Blk x rb [bv, .int .i64 p, .bool true]) mix.noOper [([0, 1, 2, 3, 4, 5, 6, 7, 8], 9)] [10, 11, 12, 13, 14, 15, 16] (by kernel_rfl) (by kernel_rfl) (fun _ _ _ d _ h => by cases d <;> exact h) ?_ ?_
      · exact b1
      rw [mix.wpMix_cons]
      simp only [List.map_cons, List.map_nil, List.getD_cons_succ, List.getD_cons_zero]
      refine BigFrame.wpQuiet_want rfl (fun K hK => ?_)
      refine entref.quiet_val (.func (.func 92) #[] #[.pointer (some ⟨fb, 0, none⟩)]) (fun x hx => by have hc0 := hx.cell (j := 0) rfl; have hc1 := hx.cell (j := 1) rfl; go_simp) (hK _ ?_)
      clear hK K
      simp only [Act.put, List.setIfInBounds_toArray, List.set_cons_zero, List.set_cons_succ]
      refine BigFrame.wpQuiet_want rfl (fun K hK => ?_)
      refine entref.quiet_val (.pointer (some ⟨rb, 0, none⟩)) (fun x hx => by have hc0 := hx.cell (j := 0) rfl; have hc1 := hx.cell (j := 1) rfl; go_simp) (hK _ ?_)
      clear hK K
      simp only [Act.put, List.setIfInBounds_toArray, List.set_cons_zero, List.set_cons_succ]
      refine BigFrame.wpQuiet_want rfl (fun K hK => ?_)
      refine entref.quiet_val (.pointer (some ⟨rb, 0, none⟩)) (fun x hx => by have hc0 := hx.cell (j := 0) rfl; have hc1 := hx.cell (j := 1) rfl; go_simp) (hK _ ?_)
      clear hK K
      simp only [Act.put, List.setIfInBounds_toArray, List.set_cons_zero, List.set_cons_succ]
      refine BigFrame.wpQuiet_want rfl (fun K hK => ?_)
      refine entref.quiet_val (.pointer (some ⟨rb, 0, none⟩)) (fun x hx => by have hc0 := hx.cell (j := 0) rfl; have hc1 := hx.cell (j := 1) rfl; go_simp) (hK _ ?_)
      clear hK K
      simp only [Act.put, List.setIfInBounds_toArray, List.set_cons_zero, List.set_cons_succ]
      refine BigFrame.wpQuiet_want rfl (fun K hK => ?_)
      refine entref.quiet_val (bv) (fun x hx => by have hc0 := hx.cell (j := 0) rfl; have hc1 := hx.cell (j := 1) rfl; go_simp) (hK _ ?_)
      clear hK K
      simp only [Act.put, List.setIfInBounds_toArray, List.set_cons_zero, List.set_cons_succ]
      refine BigFrame.wpQuiet_want rfl (fun K hK => ?_)
      refine entref.quiet_val (.pointer (some ⟨rb, 0, none⟩)) (fun x hx => by have hc0 := hx.cell (j := 0) rfl; have hc1 := hx.cell (j := 1) rfl; go_simp) (hK _ ?_)
      clear hK K
      simp only [Act.put, List.setIfInBounds_toArray, List.set_cons_zero, List.set_cons_succ]
      refine BigFrame.wpQuiet_want rfl (fun K hK => ?_)
      refine entref.quiet_val (.pointer (some ⟨rb, 0, none⟩)) (fun x hx => by have hc0 := hx.cell (j := 0) rfl; have hc1 := hx.cell (j := 1) rfl; go_simp) (hK _ ?_)
      clear hK K
      simp only [Act.put, List.setIfInBounds_toArray, List.set_cons_zero, List.set_cons_succ]
      refine BigFrame.wpQuiet_want rfl (fun K hK => ?_)
      refine entref.quiet_val (.pointer (some ⟨rb, 1, none⟩)) (fun x hx => by have hc0 := hx.cell (j := 0) rfl; have hc1 := hx.cell (j := 1) rfl; go_simp) (hK _ ?_)
      clear hK K
      simp only [Act.put, List.setIfInBounds_toArray, List.set_cons_zero, List.set_cons_succ]
      refine BigFrame.wpQuiet_want rfl (fun K hK => ?_)
      refine entref.quiet_val (.int .i64 p) (fun x hx => by have hc0 := hx.cell (j := 0) rfl; have hc1 := hx.cell (j := 1) rfl; go_simp) (hK _ ?_)
      clear hK K
      simp only [Act.put, List.setIfInBounds_toArray, List.set_cons_zero, List.set_cons_succ]
      refine wpQuiet_nil ?_
      refine mix.callAt_step (by rfl) (fun K hK => ?_)
      go_simp
      refine (G).mono ?_
      rintro r w1 ⟨hw0, hg⟩
      have hw : Below w.heap.size w w1 := hd0.trans hw0
      obtain ⟨cs, hrep, rfl⟩ := hg
      obtain ⟨v, rows, rfl, hrow, hl0, a, cap, rfl, hd⟩ := hrep
      simp only [packV, List.headD_cons]
      have c1 := (b1.below hw b1.lt).cell (j := 1) rfl
      have c2 := (b1.below hw b1.lt).cell (j := 2) rfl
      have fr1 := (b1.below hw b1.lt).free 1
      have fr2 := (b1.below hw b1.lt).free 2
      have c3 := (b2.below hw b2.lt).cell hu0
      have fr3 := (b2.below hw b2.lt).free k
      go_wp2_with fail
      refine ⟨(b1.below hw b1.lt), ?_⟩
      rw [mix.wpMix_nil]
      simp only [List.map_cons, List.map_nil, List.getD_cons_succ, List.getD_cons_zero]
      refine BigFrame.wpQuiet_want rfl (fun K hK => ?_)
      refine entref.quiet_val (.tuple #[.slice a m.length cap, .int .i64 nx, .bool true]) (fun x hx => by go_simp) (hK _ ?_)
      clear hK K
      simp only [Act.put, List.setIfInBounds_toArray, List.set_cons_zero, List.set_cons_succ]
      refine BigFrame.wpQuiet_want rfl (fun K hK => ?_)
      refine entref.quiet_val (.slice a m.length cap) (fun x hx => by go_simp) (hK _ ?_)
      clear hK K
      simp only [Act.put, List.setIfInBounds_toArray, List.set_cons_zero, List.set_cons_succ]
      refine BigFrame.wpQuiet_want rfl (fun K hK => ?_)
      refine entref.quiet_val (.int .i64 nx) (fun x hx => by go_simp) (hK _ ?_)
      clear hK K
      simp only [Act.put, List.setIfInBounds_toArray, List.set_cons_zero, List.set_cons_succ]
      refine BigFrame.wpQuiet_want rfl (fun K hK => ?_)
      refine entref.quiet_val (.bool true) (fun x hx => by go_simp) (hK _ ?_)
      clear hK K
      simp only [Act.put, List.setIfInBounds_toArray, List.set_cons_zero, List.set_cons_succ]
      refine BigFrame.wpQuiet_want rfl (fun K hK => ?_)
      refine entref.quiet_val (.slice a m.length cap) (fun x hx => by go_simp) (hK _ ?_)
      clear hK K
      simp only [Act.put, List.setIfInBounds_toArray, List.set_cons_zero, List.set_cons_succ]
      refine BigFrame.wpQuiet_want rfl (fun K hK => ?_)
      refine entref.quiet_val (.int .i64 nx) (fun x hx => by go_simp) (hK _ ?_)
      clear hK K
      simp only [Act.put, List.setIfInBounds_toArray, List.set_cons_zero, List.set_cons_succ]
      refine BigFrame.wpQuiet_want rfl (fun K hK => ?_)
      refine entref.quiet_val (.bool true) (fun x hx => by go_simp) (hK _ ?_)
      clear hK K
      simp only [Act.put, List.setIfInBounds_toArray, List.set_cons_zero, List.set_cons_succ]
      refine wpQuiet_nil ?_
      clear hu0
      go_wp2_with fail
      go_end0
      refine ⟨[.slice a m.length cap], fun es' p' x nx' h1 h2 => ?_, rfl, filledK hR hB1 hB2 hne hlo.1 hlo.2 hbv b1 b2 HN.out hw (by simp [advS, HA.out, setAt]) hk (by have := HX.out; omega)⟩
      simp only [Option.some.injEq, Prod.mk.injEq] at h1
      obtain ⟨-, rfl⟩ := h1
      rw [HA.out] at h2
      simp only [Option.some.injEq, Prod.mk.injEq] at h2
      obtain ⟨rfl, rfl⟩ := h2
      have kept : Kept (fun b => lo ≤ b) w1 ((w1.setCell ⟨eb, k, none⟩ (.slice a m.length cap)).setCell ⟨rb, 1, none⟩ (.int .i64 nx)) := ((Kept.refl _ _).setCell _ _ (by simp only; omega)).setCell _ _ (by simp only; omega)
      exact (rep.list rVw).keep kept ((rep.list rVw).mono (fun b hS _ => Nat.le_trans hlw hS) ⟨_, rows, rfl, hrow, hl0, a, cap, rfl, hd⟩)

set_option maxRecDepth 100000 in
theorem sns_any (B lo rb eb k fb : Nat) (bv : Value) (l : List UInt8) (ks : List Nat) (s : Option (List Value × Nat)) (w : World) (h : Rst B rb eb bv l ks s w) (hlo : rb < lo ∧ eb < lo) (hlw : lo ≤ w.heap.size) (hk : ks[k]? = some 5) (hl : l.length ≤ 9223372036854000000)
    (hG : ∀ (p : Nat) (w1 : World), Below w.heap.size w w1 → Rd w1 bv l → p ≤ 9223372036854775000 → Calls Try.prog 94 #[bv, .int .i64 p, .pointer (some ⟨fb, 0, none⟩)] w1 (Got (rep.list rSn) packV (.slice none 0 0) (getL getSn l p) w1)) :
    Calls Try.prog 76 #[.pointer (some ⟨rb, 0, none⟩), .pointer (some ⟨eb, k, none⟩), .func (.func 94) #[] #[.pointer (some ⟨fb, 0, none⟩)]] w (DoneR (rep.list rSn) (getL getSn l) B lo rb eb k bv l ks s w) := by
  have H := Lib.hid h
  obtain ⟨hR, hB1, hB2, hne, hbv, hs⟩ := h
  cases s with
  | none =>
    obtain ⟨p, es, b1, b2, hn⟩ := hs
    have c2 := b1.cell (j := 2) rfl
    go_enter Try.func76, Try.ntmps76
    go_wp2_with fail
    go_end0
    exact stillR H.out [.int .i64 0] rfl
  | some x =>
    obtain ⟨es, p⟩ := x
    obtain ⟨b1, b2, hn, hp⟩ := hs
    have c2' := b1.cell (j := 2) rfl
    obtain ⟨u0, hu0⟩ : ∃ u, es[k]? = some u := kd_at hn hk
    have HN := Lib.hid hn
    have hd0 : Below w.heap.size w w.drew := (Below.refl _ _).drew
    have G := hG p w.drew hd0 (hR.below hd0 (Nat.le_refl _)) (by omega)
    clear hn hG
    cases hr : getL getSn l p with
    | none =>
      rw [hr] at G
      have HA := Lib.hid hr
      clear hr
      go_enter Try.func76, Try.ntmps76
      go_wp2_with fail
      refine mix.wp_region_mix (fun x => Blk x rb [bv, .int .i64 p, .bool true]) mix.noOper [([0, 1, 2, 3, 4, 5, 6, 7, 8], 9)] [10, 11, 12, 13, 14, 15, 16] (by kernel_rfl) (by kernel_rfl) (fun _ _ _ d _ h => by cases d <;> exact h) ?_ ?_
      · exact b1
      rw [mix.wpMix_cons]
      simp only [List.map_cons, List.map_nil, List.getD_cons_succ, List.getD_cons_zero]
      refine BigFrame.wpQuiet_want rfl (fun K hK => ?_)
      refine entref.quiet_val (.func (.func 94) #[] #[.pointer (some ⟨fb, 0, none⟩)]) (fun x hx => by have hc0 := hx.cell (j := 0) rfl; have hc1 := hx.cell (j := 1) rfl; go_simp) (hK _ ?_)
      clear hK K
      simp only [Act.put, List.setIfInBounds_toArray, List.set_cons_zero, List.set_cons_succ]
      refine BigFrame.wpQuiet_want rfl (fun K hK => ?_)
      refine entref.quiet_val (.pointer (some ⟨rb, 0, none⟩)) (fun x hx => by have hc0 := hx.cell (j := 0) rfl; have hc1 := hx.cell (j := 1) rfl; go_simp) (hK _ ?_)
      clear hK K
      simp only [Act.put, List.setIfInBounds_toArray, List.set_cons_zero, List.set_cons_succ]
      refine BigFrame.wpQuiet_want rfl (fun K hK => ?_)
      refine entref.quiet_val (.pointer (some ⟨rb, 0, none⟩)) (fun x hx => by have hc0 := hx.cell (j := 0) rfl; have hc1 := hx.cell (j := 1) rfl; go_simp) (hK _ ?_)
      clear hK K
      simp only [Act.put, List.setIfInBounds_toArray, List.set_cons_zero, List.set_cons_succ]
      refine BigFrame.wpQuiet_want rfl (fun K hK => ?_)
      refine entref.quiet_val (.pointer (some ⟨rb, 0, none⟩)) (fun x hx => by have hc0 := hx.cell (j := 0) rfl; have hc1 := hx.cell (j := 1) rfl; go_simp) (hK _ ?_)
      clear hK K
      simp only [Act.put, List.setIfInBounds_toArray, List.set_cons_zero, List.set_cons_succ]
      refine BigFrame.wpQuiet_want rfl (fun K hK => ?_)
      refine entref.quiet_val (bv) (fun x hx => by have hc0 := hx.cell (j := 0) rfl; have hc1 := hx.cell (j := 1) rfl; go_simp) (hK _ ?_)
      clear hK K
      simp only [Act.put, List.setIfInBounds_toArray, List.set_cons_zero, List.set_cons_succ]
      refine BigFrame.wpQuiet_want rfl (fun K hK => ?_)
      refine entref.quiet_val (.pointer (some ⟨rb, 0, none⟩)) (fun x hx => by have hc0 := hx.cell (j := 0) rfl; have hc1 := hx.cell (j := 1) rfl; go_simp) (hK _ ?_)
      clear hK K
      simp only [Act.put, List.setIfInBounds_toArray, List.set_cons_zero, List.set_cons_succ]
      refine BigFrame.wpQuiet_want rfl (fun K hK => ?_)
      refine entref.quiet_val (.pointer (some ⟨rb, 0, none⟩)) (fun x hx => by have hc0 := hx.cell (j := 0) rfl; have hc1 := hx.cell (j := 1) rfl; go_simp) (hK _ ?_)
      clear hK K
      simp only [Act.put, List.setIfInBounds_toArray, List.set_cons_zero, List.set_cons_succ]
      refine BigFrame.wpQuiet_want rfl (fun K hK => ?_)
      refine entref.quiet_val (.pointer (some ⟨rb, 1, none⟩)) (fun x hx => by have hc0 := hx.cell (j := 0) rfl; have hc1 := hx.cell (j := 1) rfl; go_simp) (hK _ ?_)
      clear hK K
      simp only [Act.put, List.setIfInBounds_toArray, List.set_cons_zero, List.set_cons_succ]
      refine BigFrame.wpQuiet_want rfl (fun K hK => ?_)
      refine entref.quiet_val (.int .i64 p) (fun x hx => by have hc0 := hx.cell (j := 0) rfl; have hc1 := hx.cell (j := 1) rfl; go_simp) (hK _ ?_)
      clear hK K
      simp only [Act.put, List.setIfInBounds_toArray, List.set_cons_zero, List.set_cons_succ]
      refine wpQuiet_nil ?_
      refine mix.callAt_step (by rfl) (fun K hK => ?_)
      go_simp
      refine (G).mono ?_
      rintro r w1 ⟨hw0, hg⟩
      have hw : Below w.heap.size w w1 := hd0.trans hw0
      subst hg
      have c1 := (b1.below hw b1.lt).cell (j := 1) rfl
      have c2 := (b1.below hw b1.lt).cell (j := 2) rfl
      have fr1 := (b1.below hw b1.lt).free 1
      have fr2 := (b1.below hw b1.lt).free 2
      have c3 := (b2.below hw b2.lt).cell hu0
      have fr3 := (b2.below hw b2.lt).free k
      go_wp2_with fail
      refine ⟨(b1.below hw b1.lt), ?_⟩
      rw [mix.wpMix_nil]
      simp only [List.map_cons, List.map_nil, List.getD_cons_succ, List.getD_cons_zero]
      refine BigFrame.wpQuiet_want rfl (fun K hK => ?_)
      refine entref.quiet_val (.tuple #[.slice none 0 0, .int .i64 0, .bool false]) (fun x hx => by go_simp) (hK _ ?_)
      clear hK K
      simp only [Act.put, List.setIfInBounds_toArray, List.set_cons_zero, List.set_cons_succ]
      refine BigFrame.wpQuiet_want rfl (fun K hK => ?_)
      refine entref.quiet_val (.slice none 0 0) (fun x hx => by go_simp) (hK _ ?_)
      clear hK K
      simp only [Act.put, List.setIfInBounds_toArray, List.set_cons_zero, List.set_cons_succ]
      refine BigFrame.wpQuiet_want rfl (fun K hK => ?_)
      refine entref.quiet_val (.int .i64 0) (fun x hx => by go_simp) (hK _ ?_)
      clear hK K
      simp only [Act.put, List.setIfInBounds_toArray, List.set_cons_zero, List.set_cons_succ]
      refine BigFrame.wpQuiet_want rfl (fun K hK => ?_)
      refine entref.quiet_val (.bool false) (fun x hx => by go_simp) (hK _ ?_)
      clear hK K
      simp only [Act.put, List.setIfInBounds_toArray, List.set_cons_zero, List.set_cons_succ]
      refine BigFrame.wpQuiet_want rfl (fun K hK => ?_)
      refine entref.quiet_val (.slice none 0 0) (fun x hx => by go_simp) (hK _ ?_)
      clear hK K
      simp only [Act.put, List.setIfInBounds_toArray, List.set_cons_zero, List.set_cons_succ]
      refine BigFrame.wpQuiet_want rfl (fun K hK => ?_)
      refine entref.quiet_val (.int .i64 0) (fun x hx => by go_simp) (hK _ ?_)
      clear hK K
      simp only [Act.put, List.setIfInBounds_toArray, List.set_cons_zero, List.set_cons_succ]
      refine BigFrame.wpQuiet_want rfl (fun K hK => ?_)
      refine entref.quiet_val (.bool false) (fun x hx => by go_simp) (hK _ ?_)
      clear hK K
      simp only [Act.put, List.setIfInBounds_toArray, List.set_cons_zero, List.set_cons_succ]
      refine wpQuiet_nil ?_
      clear hu0
      go_wp2_with fail
      go_end0
      refine ⟨[.int .i64 0], fun es' p' x nx h1 h2 => ?_, rfl, failedK hR hB1 hB2 hne hlo.1 hbv b1 b2 HN.out hw (by simp [advS, HA.out])⟩
      simp only [Option.some.injEq, Prod.mk.injEq] at h1
      obtain ⟨-, rfl⟩ := h1
      rw [HA.out] at h2
      cases h2
    | some q =>
      obtain ⟨m, nx⟩ := q
      have hnx : nx ≤ l.length := (getL_law lawSn l p m nx hr).2.1
      have HX := Lib.hid hnx
      clear hnx
      rw [hr] at G
      have HA := Lib.hid hr
      clear hr
      go_enter Try.func76, Try.ntmps76
      go_wp2_with fail
      refine mix.wp_region_mix (fun x => Blk x rb [bv, .int .i64 p, .bool true]) mix.noOper [([0, 1, 2, 3, 4, 5, 6, 7, 8], 9)] [10, 11, 12, 13, 14, 15, 16] (by kernel_rfl) (by kernel_rfl) (fun _ _ _ d _ h => by cases d <;> exact h) ?_ ?_
      · exact b1
      rw [mix.wpMix_cons]
      simp only [List.map_cons, List.map_nil, List.getD_cons_succ, List.getD_cons_zero]
      refine BigFrame.wpQuiet_want rfl (fun K hK => ?_)
      refine entref.quiet_val (.func (.func 94) #[] #[.pointer (some ⟨fb, 0, none⟩)]) (fun x hx => by have hc0 := hx.cell (j := 0) rfl; have hc1 := hx.cell (j := 1) rfl; go_simp) (hK _ ?_)
      clear hK K
      simp only [Act.put, List.setIfInBounds_toArray, List.set_cons_zero, List.set_cons_succ]
      refine BigFrame.wpQuiet_want rfl (fun K hK => ?_)
      refine entref.quiet_val (.pointer (some ⟨rb, 0, none⟩)) (fun x hx => by have hc0 := hx.cell (j := 0) rfl; have hc1 := hx.cell (j := 1) rfl; go_simp) (hK _ ?_)
      clear hK K
      simp only [Act.put, List.setIfInBounds_toArray, List.set_cons_zero, List.set_cons_succ]
      refine BigFrame.wpQuiet_want rfl (fun K hK => ?_)
      refine entref.quiet_val (.pointer (some ⟨rb, 0, none⟩)) (fun x hx => by have hc0 := hx.cell (j := 0) rfl; have hc1 := hx.cell (j := 1) rfl; go_simp) (hK _ ?_)
      clear hK K
      simp only [Act.put, List.setIfInBounds_toArray, List.set_cons_zero, List.set_cons_succ]
      refine BigFrame.wpQuiet_want rfl (fun K hK => ?_)
      refine entref.quiet_val (.pointer (some ⟨rb, 0, none⟩)) (fun x hx => by have hc0 := hx.cell (j := 0) rfl; have hc1 := hx.cell (j := 1) rfl; go_simp) (hK _ ?_)
      clear hK K
      simp only [Act.put, List.setIfInBounds_toArray, List.set_cons_zero, List.set_cons_succ]
      refine BigFrame.wpQuiet_want rfl (fun K hK => ?_)
      refine entref.quiet_val (bv) (fun x hx => by have hc0 := hx.cell (j := 0) rfl; have hc1 := hx.cell (j := 1) rfl; go_simp) (hK _ ?_)
      clear hK K
      simp only [Act.put, List.setIfInBounds_toArray, List.set_cons_zero, List.set_cons_succ]
      refine BigFrame.wpQuiet_want rfl (fun K hK => ?_)
      refine entref.quiet_val (.pointer (some ⟨rb, 0, none⟩)) (fun x hx => by have hc0 := hx.cell (j := 0) rfl; have hc1 := hx.cell (j := 1) rfl; go_simp) (hK _ ?_)
      clear hK K
      simp only [Act.put, List.setIfInBounds_toArray, List.set_cons_zero, List.set_cons_succ]
      refine BigFrame.wpQuiet_want rfl (fun K hK => ?_)
      refine entref.quiet_val (.pointer (some ⟨rb, 0, none⟩)) (fun x hx => by have hc0 := hx.cell (j := 0) rfl; have hc1 := hx.cell (j := 1) rfl; go_simp) (hK _ ?_)
      clear hK K
      simp only [Act.put, List.setIfInBounds_toArray, List.set_cons_zero, List.set_cons_succ]
      refine BigFrame.wpQuiet_want rfl (fun K hK => ?_)
      refine entref.quiet_val (.pointer (some ⟨rb, 1, none⟩)) (fun x hx => by have hc0 := hx.cell (j := 0) rfl; have hc1 := hx.cell (j := 1) rfl; go_simp) (hK _ ?_)
      clear hK K
      simp only [Act.put, List.setIfInBounds_toArray, List.set_cons_zero, List.set_cons_succ]
      refine BigFrame.wpQuiet_want rfl (fun K hK => ?_)
      refine entref.quiet_val (.int .i64 p) (fun x hx => by have hc0 := hx.cell (j := 0) rfl; have hc1 := hx.cell (j := 1) rfl; go_simp) (hK _ ?_)
      clear hK K
      simp only [Act.put, List.setIfInBounds_toArray, List.set_cons_zero, List.set_cons_succ]
      refine wpQuiet_nil ?_
      refine mix.callAt_step (by rfl) (fun K hK => ?_)
      go_simp
      refine (G).mono ?_
      rintro r w1 ⟨hw0, hg⟩
      have hw : Below w.heap.size w w1 := hd0.trans hw0
      obtain ⟨cs, hrep, rfl⟩ := hg
      obtain ⟨v, rows, rfl, hrow, hl0, a, cap, rfl, hd⟩ := hrep
      simp only [packV, List.headD_cons]
      have c1 := (b1.below hw b1.lt).cell (j := 1) rfl
      have c2 := (b1.below hw b1.lt).cell (j := 2) rfl
      have fr1 := (b1.below hw b1.lt).free 1
      have fr2 := (b1.below hw b1.lt).free 2
      have c3 := (b2.below hw b2.lt).cell hu0
      have fr3 := (b2.below hw b2.lt).free k
      go_wp2_with fail
      refine ⟨(b1.below hw b1.lt), ?_⟩
      rw [mix.wpMix_nil]
      simp only [List.map_cons, List.map_nil, List.getD_cons_succ, List.getD_cons_zero]
      refine BigFrame.wpQuiet_want rfl (fun K hK => ?_)
      refine entref.quiet_val (.tuple #[.slice a m.length cap, .int .i64 nx, .bool true]) (fun x hx => by go_simp) (hK _ ?_)
      clear hK K
      simp only [Act.put, List.setIfInBounds_toArray, List.set_cons_zero, List.set_cons_succ]
      refine BigFrame.wpQuiet_want rfl (fun K hK => ?_)
      refine entref.quiet_val (.slice a m.length cap) (fun x hx => by go_simp) (hK _ ?_)
      clear hK K
      simp only [Act.put, List.setIfInBounds_toArray, List.set_cons_zero, List.set_cons_succ]
      refine BigFrame.wpQuiet_want rfl (fun K hK => ?_)
      refine entref.quiet_val (.int .i64 nx) (fun x hx => by go_simp) (hK _ ?_)
      clear hK K
      simp only [Act.put, List.setIfInBounds_toArray, List.set_cons_zero, List.set_cons_succ]
      refine BigFrame.wpQuiet_want rfl (fun K hK => ?_)
      refine entref.quiet_val (.bool true) (fun x hx => by go_simp) (hK _ ?_)
      clear hK K
      simp only [Act.put, List.setIfInBounds_toArray, List.set_cons_zero, List.set_cons_succ]
      refine BigFrame.wpQuiet_want rfl (fun K hK => ?_)
      refine entref.quiet_val (.slice a m.length cap) (fun x hx => by go_simp) (hK _ ?_)
      clear hK K
      simp only [Act.put, List.setIfInBounds_toArray, List.set_cons_zero, List.set_cons_succ]
      refine BigFrame.wpQuiet_want rfl (fun K hK => ?_)
      refine entref.quiet_val (.int .i64 nx) (fun x hx => by go_simp) (hK _ ?_)
      clear hK K
      simp only [Act.put, List.setIfInBounds_toArray, List.set_cons_zero, List.set_cons_succ]
      refine BigFrame.wpQuiet_want rfl (fun K hK => ?_)
      refine entref.quiet_val (.bool true) (fun x hx => by go_simp) (hK _ ?_)
      clear hK K
      simp only [Act.put, List.setIfInBounds_toArray, List.set_cons_zero, List.set_cons_succ]
      refine wpQuiet_nil ?_
      clear hu0
      go_wp2_with fail
      go_end0
      refine ⟨[.slice a m.length cap], fun es' p' x nx' h1 h2 => ?_, rfl, filledK hR hB1 hB2 hne hlo.1 hlo.2 hbv b1 b2 HN.out hw (by simp [advS, HA.out, setAt]) hk (by have := HX.out; omega)⟩
      simp only [Option.some.injEq, Prod.mk.injEq] at h1
      obtain ⟨-, rfl⟩ := h1
      rw [HA.out] at h2
      simp only [Option.some.injEq, Prod.mk.injEq] at h2
      obtain ⟨rfl, rfl⟩ := h2
      have kept : Kept (fun b => lo ≤ b) w1 ((w1.setCell ⟨eb, k, none⟩ (.slice a m.length cap)).setCell ⟨rb, 1, none⟩ (.int .i64 nx)) := ((Kept.refl _ _).setCell _ _ (by simp only; omega)).setCell _ _ (by simp only; omega)
      exact (rep.list rSn).keep kept ((rep.list rSn).mono (fun b hS _ => Nat.le_trans hlw hS) ⟨_, rows, rfl, hrow, hl0, a, cap, rfl, hd⟩)

end Go.Proofs.Ytolgbnpginifkaa.minto
