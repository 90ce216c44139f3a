/- The contract of entry.into at a version. -/
import Derived.Test.YtolgbnpginifkaaInto
namespace Go.Proofs.Ytolgbnpginifkaa.into
open Go.ChangeShapes Go.WideShapes Go.ChangeAt Go.RowKit codec st get blk
set_option linter.unusedVariables false

set_option maxRecDepth 100000 in
theorem ver_any (B rb eb k : Nat) (bv : Value) (l : List UInt8) (n : Nat) (s : Option (List Value × Nat)) (w : World) (h : Rst B rb eb bv l n s w) (hk : k < n) (hl : l.length ≤ 9223372036854000000) :
    Calls Try.prog 50 #[.pointer (some ⟨rb, 0, none⟩), .pointer (some ⟨eb, k, none⟩), .func (.func 27) #[] #[]] w (Done B rb eb bv l n (adv (fV l) k s) w) := by
  obtain ⟨hR, hB1, hB2, hne, hbv, hs⟩ := h
  cases s with
  | none =>
    obtain ⟨p, es, b1, b2, hn⟩ := hs
    have c2 := b1.cell (j := 2) rfl
    go_enter Try.func50, Try.ntmps50
    go_wp2_with fail
    go_end0
    exact ⟨rfl, Below.refl _ _, hR, hB1, hB2, hne, hbv, p, es, b1, b2, hn⟩
  | some x =>
    obtain ⟨es, p⟩ := x
    obtain ⟨b1, b2, hn, hp⟩ := hs
    have c0 := b1.cell (j := 0) rfl
    have c1 := b1.cell (j := 1) rfl
    have c2 := b1.cell (j := 2) rfl
    have fr1 := b1.free 1
    have fr2 := b1.free 2
    obtain ⟨u0, hu0⟩ : ∃ u, es[k]? = some u := ⟨_, List.getElem?_eq_getElem (by omega)⟩
    have c3 := b2.cell hu0
    have fr3 := b2.free k
    have HN := Lib.hid hn
    clear hu0 hn
    cases hr : getV l p with
    | none =>
      have HA : Hid (adv (fV l) k (some (es, p)) = none) := Lib.hid (by unfold adv fV; simp [hr])
      have G := get.ver_any bv l p w.drew (hR.below (Below.refl _ _).drew (Nat.le_refl _)) (by omega) (by omega)
      rw [hr] at G
      clear hr
      go_enter Try.func50, Try.ntmps50
      go_wp2_with fail
      refine mix.wp_region_mix (fun x => ∃ m, x = w.drewN m) mix.noOper [([0, 1, 2, 3, 4, 5, 6, 7, 8], 9)] [10, 11, 12, 13, 14, 15, 16] (by kernel_rfl) (by kernel_rfl) (fun _ _ _ d _ h => by cases d <;> exact h) ?_ ?_
      · exact ⟨1, rfl⟩
      rw [mix.wpMix_cons]
      simp only [List.map_cons, List.map_nil, List.getD_cons_succ, List.getD_cons_zero]
      repeat (go_big_quiet_step (fail))
      refine wpQuiet_nil ?_
      refine mix.callAt_step (by rfl) (fun K hK => ?_)
      go_simp
      refine (G).mono ?_
      rintro r w' ⟨rfl, rfl⟩
      simp only [vV]
      go_wp2_with fail
      refine ⟨⟨1, rfl⟩, ?_⟩
      rw [mix.wpMix_nil]
      simp only [List.map_cons, List.map_nil, List.getD_cons_succ, List.getD_cons_zero]
      repeat (go_big_quiet_step (fail))
      refine wpQuiet_nil ?_
      go_wp2_with fail
      go_end0
      exact failed hR hB1 hB2 hne hbv b1 b2 HN.out HA.out
    | some q =>
      obtain ⟨⟨m, m2⟩, nx⟩ := q
      have hnx : nx ≤ l.length := (getV_seg hr).2.1
      have HA : Hid (adv (fV l) k (some (es, p)) = some (es.set k (.complex .f64 (flt.F m) (flt.F m2)), nx)) := Lib.hid (by unfold adv fV; simp [hr])
      have G := get.ver_any bv l p w.drew (hR.below (Below.refl _ _).drew (Nat.le_refl _)) (by omega) (by omega)
      rw [hr] at G
      clear hr
      have hst : ∀ (w : World) (a : Addr) (q : Mode), (store a (.complex .f64 (flt.F m) (flt.F m2)) q).run Try.prog w = stored Try.prog w a (.complex .f64 (flt.F m) (flt.F m2)) q := fun w a q => run_store Try.prog w a _ q rfl
      go_enter Try.func50, Try.ntmps50
      go_wp2_with fail
      refine mix.wp_region_mix (fun x => ∃ m, x = w.drewN m) mix.noOper [([0, 1, 2, 3, 4, 5, 6, 7, 8], 9)] [10, 11, 12, 13, 14, 15, 16] (by kernel_rfl) (by kernel_rfl) (fun _ _ _ d _ h => by cases d <;> exact h) ?_ ?_
      · exact ⟨1, rfl⟩
      rw [mix.wpMix_cons]
      simp only [List.map_cons, List.map_nil, List.getD_cons_succ, List.getD_cons_zero]
      repeat (go_big_quiet_step (fail))
      refine wpQuiet_nil ?_
      refine mix.callAt_step (by rfl) (fun K hK => ?_)
      go_simp
      refine (G).mono ?_
      rintro r w' ⟨rfl, rfl⟩
      simp only [vV]
      go_wp2_with fail
      refine ⟨⟨1, rfl⟩, ?_⟩
      rw [mix.wpMix_nil]
      simp only [List.map_cons, List.map_nil, List.getD_cons_succ, List.getD_cons_zero]
      repeat (go_big_quiet_step (fail))
      refine wpQuiet_nil ?_
      go_wp2_with fail
      go_end0
      exact filled hR hB1 hB2 hne hbv b1 b2 HN.out HA.out (by omega)
end Go.Proofs.Ytolgbnpginifkaa.into
