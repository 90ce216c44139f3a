/- The contracts of entry.into: a field is read, or the reader isn't ok any more. -/
import Derived.Test.YtolgbnpginifkaaBlk
import Derived.Test.YtolgbnpginifkaaGetV
import Derived.Test.YtolgbnpginifkaaMix
namespace Go.Proofs.Ytolgbnpginifkaa.into
open Go.ChangeShapes Go.WideShapes Go.ChangeAt Go.RowKit codec st get blk
set_option linter.unusedVariables false

/-- What has been read: the target's cells, and the place behind; or nothing. -/
def Rst (B rb eb : Nat) (bv : Value) (l : List UInt8) (n : Nat) (s : Option (List Value × Nat)) (w : World) : Prop :=
  Rd w bv l ∧ B ≤ rb ∧ B ≤ eb ∧ rb ≠ eb ∧ (∀ k, bv.ownBlock = some k → l ≠ [] → k < B) ∧
  match s with
  | some (es, p) => Blk w rb [bv, .int .i64 p, .bool true] ∧ Blk w eb es ∧ es.length = n ∧ p ≤ 9223372036854775000
  | none => ∃ p es, Blk w rb [bv, .int .i64 (p : Nat), .bool false] ∧ Blk w eb es ∧ es.length = n

def adv (g : Nat → Option (Value × Nat)) (k : Nat) (s : Option (List Value × Nat)) : Option (List Value × Nat) := s.bind fun x => (g x.2).map fun y => (x.1.set k y.1, y.2)
def fI (l : List UInt8) (p : Nat) : Option (Value × Nat) := (getI l p).map fun x => (.int .i64 x.1, x.2)
def fT (l : List UInt8) (p : Nat) : Option (Value × Nat) := (getT l p).map fun x => (.string ⟨x.1.toArray⟩, x.2)
def fB (l : List UInt8) (p : Nat) : Option (Value × Nat) := (getB l p).map fun x => (.bool x.1, x.2)
def fV (l : List UInt8) (p : Nat) : Option (Value × Nat) := (getV l p).map fun x => (.complex .f64 (flt.F x.1.1) (flt.F x.1.2), x.2)

/-- Only what bv's own block holds is asked. -/
theorem _root_.Go.Proofs.Ytolgbnpginifkaa.st.Rd.belowOf {n : Nat} {w w' : World} {v : Value} {l : List UInt8} (h : Rd w v l) (hb : Below n w w') (hv : ∀ k, v.ownBlock = some k → l ≠ [] → k < n) : Rd w' v l := by
  obtain ⟨a, cap, rfl, h1, h2, hc⟩ := h
  refine ⟨a, cap, rfl, h1, h2, fun i c hi => ?_⟩
  obtain ⟨x, hx, hcell⟩ := hc i c hi
  subst hx
  exact ⟨x, rfl, by rw [hb.cell (by rw [addBlock]; exact hv x.block rfl (fun e => by rw [e] at hi; simp at hi))]; exact hcell⟩

def Done (B rb eb : Nat) (bv : Value) (l : List UInt8) (n : Nat) (s : Option (List Value × Nat)) (w : World) (e : Ending) (w' : World) : Prop :=
  e = .returned (.tuple #[]) ∧ Below B w w' ∧ Rst B rb eb bv l n s w'

theorem failed {B rb eb : Nat} {bv : Value} {l : List UInt8} {n p : Nat} {s : Option (List Value × Nat)} {es : List Value} {w : World} (hR : Rd w bv l) (hB1 : B ≤ rb) (hB2 : B ≤ eb) (hne : rb ≠ eb) (hbv : ∀ k, bv.ownBlock = some k → l ≠ [] → k < B)
    (b1 : Blk w rb [bv, .int .i64 p, .bool true]) (b2 : Blk w eb es) (hn : es.length = n) (hs : s = none) : Done B rb eb bv l n s w (.returned (.tuple #[])) (w.setCell ⟨rb, 2, none⟩ (.bool false)).drew := by
  subst hs
  have hb : Below B w (w.setCell ⟨rb, 2, none⟩ (.bool false)).drew := ((Below.refl B w).setCell hB1 _).drew
  refine ⟨rfl, hb, hR.belowOf hb hbv, hB1, hB2, hne, hbv, p, es, (b1.set 2 (.bool false)).drew, (b2.other _ (fun e => hne e.symm)).drew, hn⟩

theorem filled {B rb eb k : Nat} {bv : Value} {l : List UInt8} {n p nx : Nat} {s : Option (List Value × Nat)} {es : List Value} {v : Value} {w : World} (hR : Rd w bv l) (hB1 : B ≤ rb) (hB2 : B ≤ eb) (hne : rb ≠ eb) (hbv : ∀ k, bv.ownBlock = some k → l ≠ [] → k < B)
    (b1 : Blk w rb [bv, .int .i64 p, .bool true]) (b2 : Blk w eb es) (hn : es.length = n) (hs : s = some (es.set k v, nx)) (hx : nx ≤ 9223372036854775000) :
    Done B rb eb bv l n s w (.returned (.tuple #[])) ((w.setCell ⟨eb, k, none⟩ v).setCell ⟨rb, 1, none⟩ (.int .i64 nx)).drew := by
  subst hs
  have hb : Below B w ((w.setCell ⟨eb, k, none⟩ v).setCell ⟨rb, 1, none⟩ (.int .i64 nx)).drew := (((Below.refl B w).setCell hB2 _).setCell hB1 _).drew
  refine ⟨rfl, hb, hR.belowOf hb hbv, hB1, hB2, hne, hbv, ((b1.other _ hne).set 1 _).drew, ((b2.set k v).other _ (fun e => hne e.symm)).drew, by simp [hn], hx⟩

/-- The beginning: the result's block, the target's, the reader's. -/
theorem Rst.start {w : World} {a : Option Addr} {len cap : Nat} {l : List UInt8} (hR : Rd w (.slice a len cap) l) (zs : List Value) (T T' : TypeId) (o : Obj) (at_ : Nat) (ha : at_ ≤ 9223372036854775000) (b1 b2 : Nat) (h1 : b1 = w.heap.size + 1) (h2 : b2 = w.heap.size + 1 + 1)
    (cs : Array Value) (hcs : cs = zs.toArray) :
    Rst (w.heap.size + 1) b2 b1 (.slice a len cap) l zs.length (some (zs, at_)) (((w.alloc o).alloc (.cells cs T)).alloc (.cells #[.slice a len cap, .int .i64 at_, .bool true] T')) := by
  subst h1 h2 hcs
  have s1 : (w.alloc o).heap.size = w.heap.size + 1 := by simp
  have s2 : ((w.alloc o).alloc (.cells zs.toArray T)).heap.size = w.heap.size + 1 + 1 := by simp
  have hb : Below w.heap.size w (((w.alloc o).alloc (.cells zs.toArray T)).alloc (.cells #[.slice a len cap, .int .i64 at_, .bool true] T')) :=
    (((Below.refl _ w).alloc (Nat.le_refl _) _).alloc (by simp) _).alloc (by simp; omega) _
  refine ⟨hR.below hb (Nat.le_refl _), by omega, by omega, by omega, fun k hk hne => ?_, ?_, ?_, rfl, ha⟩
  · obtain ⟨a', c', e, _, _, hc⟩ := hR
    simp only [Value.slice.injEq] at e
    obtain ⟨rfl, _, rfl⟩ := e
    rcases l with _ | ⟨c, r⟩
    · exact absurd rfl hne
    · obtain ⟨x, rfl, hcell⟩ := hc 0 c rfl
      have := World.block_lt_of_cell? _ _ hcell
      rw [addBlock] at this
      simp only [Value.ownBlock, Option.some.injEq] at hk
      omega
  · have := Blk.new ((w.alloc o).alloc (.cells zs.toArray T)) [.slice a len cap, .int .i64 at_, .bool true] T'
    rw [s2] at this
    exact this
  · have := (Blk.new (w.alloc o) zs T).alloc (.cells #[.slice a len cap, .int .i64 at_, .bool true] T')
    rw [s1] at this
    exact this

set_option maxRecDepth 100000 in
theorem int_any (B rb eb k : Nat) (bv : Value) (l : List UInt8) (n : Nat) (s : Option (List Value × Nat)) (w : World) (h : Rst B rb eb bv l n s w) (hk : k < n) (hl : l.length ≤ 9223372036854000000) :
    Calls Try.prog 51 #[.pointer (some ⟨rb, 0, none⟩), .pointer (some ⟨eb, k, none⟩), .func (.func 16) #[] #[]] w (Done B rb eb bv l n (adv (fI l) k s) w) := by
  obtain ⟨hR, hB1, hB2, hne, hbv, hs⟩ := h
  cases s with
  | none =>
    obtain ⟨p, es, b1, b2, hn⟩ := hs
    have c2 := b1.cell (j := 2) rfl
    go_enter Try.func51, Try.ntmps51
    go_wp2_with fail
    go_end0
    exact ⟨rfl, Below.refl _ _, hR, hB1, hB2, hne, hbv, p, es, b1, b2, hn⟩
  | some x =>
    obtain ⟨es, p⟩ := x
    obtain ⟨b1, b2, hn, hp⟩ := hs
    have c0 := b1.cell (j := 0) rfl
    have c1 := b1.cell (j := 1) rfl
    have c2 := b1.cell (j := 2) rfl
    have fr1 := b1.free 1
    have fr2 := b1.free 2
    obtain ⟨u0, hu0⟩ : ∃ u, es[k]? = some u := ⟨_, List.getElem?_eq_getElem (by omega)⟩
    have c3 := b2.cell hu0
    have fr3 := b2.free k
    have HN := Lib.hid hn
    clear hu0 hn
    cases hr : getI l p with
    | none =>
      have HA : Hid (adv (fI l) k (some (es, p)) = none) := Lib.hid (by unfold adv fI; simp [hr])
      have G := get.int_any bv l p w.drew (hR.below (Below.refl _ _).drew (Nat.le_refl _)) (by omega) (by omega)
      rw [hr] at G
      clear hr
      go_enter Try.func51, Try.ntmps51
      go_wp2_with fail
      refine mix.wp_region_mix (fun x => ∃ m, x = w.drewN m) mix.noOper [([0, 1, 2, 3, 4, 5, 6, 7, 8], 9)] [10, 11, 12, 13, 14, 15, 16] (by kernel_rfl) (by kernel_rfl) (fun _ _ _ d _ h => by cases d <;> exact h) ?_ ?_
      · exact ⟨1, rfl⟩
      rw [mix.wpMix_cons]
      simp only [List.map_cons, List.map_nil, List.getD_cons_succ, List.getD_cons_zero]
      repeat (go_big_quiet_step (fail))
      refine wpQuiet_nil ?_
      refine mix.callAt_step (by rfl) (fun K hK => ?_)
      go_simp
      refine (G).mono ?_
      rintro r w' ⟨rfl, rfl⟩
      simp only [vI]
      go_wp2_with fail
      refine ⟨⟨1, rfl⟩, ?_⟩
      rw [mix.wpMix_nil]
      simp only [List.map_cons, List.map_nil, List.getD_cons_succ, List.getD_cons_zero]
      repeat (go_big_quiet_step (fail))
      refine wpQuiet_nil ?_
      go_wp2_with fail
      go_end0
      exact failed hR hB1 hB2 hne hbv b1 b2 HN.out HA.out
    | some q =>
      obtain ⟨m, nx⟩ := q
      have hnx : nx ≤ l.length := (getI_seg hr).2.1
      have HA : Hid (adv (fI l) k (some (es, p)) = some (es.set k (.int .i64 m), nx)) := Lib.hid (by unfold adv fI; simp [hr])
      have G := get.int_any bv l p w.drew (hR.below (Below.refl _ _).drew (Nat.le_refl _)) (by omega) (by omega)
      rw [hr] at G
      clear hr
      go_enter Try.func51, Try.ntmps51
      go_wp2_with fail
      refine mix.wp_region_mix (fun x => ∃ m, x = w.drewN m) mix.noOper [([0, 1, 2, 3, 4, 5, 6, 7, 8], 9)] [10, 11, 12, 13, 14, 15, 16] (by kernel_rfl) (by kernel_rfl) (fun _ _ _ d _ h => by cases d <;> exact h) ?_ ?_
      · exact ⟨1, rfl⟩
      rw [mix.wpMix_cons]
      simp only [List.map_cons, List.map_nil, List.getD_cons_succ, List.getD_cons_zero]
      repeat (go_big_quiet_step (fail))
      refine wpQuiet_nil ?_
      refine mix.callAt_step (by rfl) (fun K hK => ?_)
      go_simp
      refine (G).mono ?_
      rintro r w' ⟨rfl, rfl⟩
      simp only [vI]
      go_wp2_with fail
      refine ⟨⟨1, rfl⟩, ?_⟩
      rw [mix.wpMix_nil]
      simp only [List.map_cons, List.map_nil, List.getD_cons_succ, List.getD_cons_zero]
      repeat (go_big_quiet_step (fail))
      refine wpQuiet_nil ?_
      go_wp2_with fail
      go_end0
      exact filled hR hB1 hB2 hne hbv b1 b2 HN.out HA.out (by omega)

set_option maxRecDepth 100000 in
theorem text_any (B rb eb k : Nat) (bv : Value) (l : List UInt8) (n : Nat) (s : Option (List Value × Nat)) (w : World) (h : Rst B rb eb bv l n s w) (hk : k < n) (hl : l.length ≤ 9223372036854000000) :
    Calls Try.prog 52 #[.pointer (some ⟨rb, 0, none⟩), .pointer (some ⟨eb, k, none⟩), .func (.func 17) #[] #[]] w (Done B rb eb bv l n (adv (fT l) k s) w) := by
  obtain ⟨hR, hB1, hB2, hne, hbv, hs⟩ := h
  cases s with
  | none =>
    obtain ⟨p, es, b1, b2, hn⟩ := hs
    have c2 := b1.cell (j := 2) rfl
    go_enter Try.func52, Try.ntmps52
    go_wp2_with fail
    go_end0
    exact ⟨rfl, Below.refl _ _, hR, hB1, hB2, hne, hbv, p, es, b1, b2, hn⟩
  | some x =>
    obtain ⟨es, p⟩ := x
    obtain ⟨b1, b2, hn, hp⟩ := hs
    have c0 := b1.cell (j := 0) rfl
    have c1 := b1.cell (j := 1) rfl
    have c2 := b1.cell (j := 2) rfl
    have fr1 := b1.free 1
    have fr2 := b1.free 2
    obtain ⟨u0, hu0⟩ : ∃ u, es[k]? = some u := ⟨_, List.getElem?_eq_getElem (by omega)⟩
    have c3 := b2.cell hu0
    have fr3 := b2.free k
    have HN := Lib.hid hn
    clear hu0 hn
    cases hr : getT l p with
    | none =>
      have HA : Hid (adv (fT l) k (some (es, p)) = none) := Lib.hid (by unfold adv fT; simp [hr])
      have G := get.text_any bv l p w.drew (hR.below (Below.refl _ _).drew (Nat.le_refl _)) (by omega) (by omega)
      rw [hr] at G
      clear hr
      go_enter Try.func52, Try.ntmps52
      go_wp2_with fail
      refine mix.wp_region_mix (fun x => ∃ m, x = w.drewN m) mix.noOper [([0, 1, 2, 3, 4, 5, 6, 7, 8], 9)] [10, 11, 12, 13, 14, 15, 16] (by kernel_rfl) (by kernel_rfl) (fun _ _ _ d _ h => by cases d <;> exact h) ?_ ?_
      · exact ⟨1, rfl⟩
      rw [mix.wpMix_cons]
      simp only [List.map_cons, List.map_nil, List.getD_cons_succ, List.getD_cons_zero]
      repeat (go_big_quiet_step (fail))
      refine wpQuiet_nil ?_
      refine mix.callAt_step (by rfl) (fun K hK => ?_)
      go_simp
      refine (G).mono ?_
      rintro r w' ⟨rfl, rfl⟩
      simp only [vT]
      go_wp2_with fail
      refine ⟨⟨1, rfl⟩, ?_⟩
      rw [mix.wpMix_nil]
      simp only [List.map_cons, List.map_nil, List.getD_cons_succ, List.getD_cons_zero]
      repeat (go_big_quiet_step (fail))
      refine wpQuiet_nil ?_
      go_wp2_with fail
      go_end0
      exact failed hR hB1 hB2 hne hbv b1 b2 HN.out HA.out
    | some q =>
      obtain ⟨m, nx⟩ := q
      have hnx : nx ≤ l.length := (getT_seg hr).2.1
      have HA : Hid (adv (fT l) k (some (es, p)) = some (es.set k (.string ⟨m.toArray⟩), nx)) := Lib.hid (by unfold adv fT; simp [hr])
      have G := get.text_any bv l p w.drew (hR.below (Below.refl _ _).drew (Nat.le_refl _)) (by omega) (by omega)
      rw [hr] at G
      clear hr
      go_enter Try.func52, Try.ntmps52
      go_wp2_with fail
      refine mix.wp_region_mix (fun x => ∃ m, x = w.drewN m) mix.noOper [([0, 1, 2, 3, 4, 5, 6, 7, 8], 9)] [10, 11, 12, 13, 14, 15, 16] (by kernel_rfl) (by kernel_rfl) (fun _ _ _ d _ h => by cases d <;> exact h) ?_ ?_
      · exact ⟨1, rfl⟩
      rw [mix.wpMix_cons]
      simp only [List.map_cons, List.map_nil, List.getD_cons_succ, List.getD_cons_zero]
      repeat (go_big_quiet_step (fail))
      refine wpQuiet_nil ?_
      refine mix.callAt_step (by rfl) (fun K hK => ?_)
      go_simp
      refine (G).mono ?_
      rintro r w' ⟨rfl, rfl⟩
      simp only [vT]
      go_wp2_with fail
      refine ⟨⟨1, rfl⟩, ?_⟩
      rw [mix.wpMix_nil]
      simp only [List.map_cons, List.map_nil, List.getD_cons_succ, List.getD_cons_zero]
      repeat (go_big_quiet_step (fail))
      refine wpQuiet_nil ?_
      go_wp2_with fail
      go_end0
      exact filled hR hB1 hB2 hne hbv b1 b2 HN.out HA.out (by omega)

set_option maxRecDepth 100000 in
theorem bool_any (B rb eb k : Nat) (bv : Value) (l : List UInt8) (n : Nat) (s : Option (List Value × Nat)) (w : World) (h : Rst B rb eb bv l n s w) (hk : k < n) (hl : l.length ≤ 9223372036854000000) :
    Calls Try.prog 53 #[.pointer (some ⟨rb, 0, none⟩), .pointer (some ⟨eb, k, none⟩), .func (.func 29) #[] #[]] w (Done B rb eb bv l n (adv (fB l) k s) w) := by
  obtain ⟨hR, hB1, hB2, hne, hbv, hs⟩ := h
  cases s with
  | none =>
    obtain ⟨p, es, b1, b2, hn⟩ := hs
    have c2 := b1.cell (j := 2) rfl
    go_enter Try.func53, Try.ntmps53
    go_wp2_with fail
    go_end0
    exact ⟨rfl, Below.refl _ _, hR, hB1, hB2, hne, hbv, p, es, b1, b2, hn⟩
  | some x =>
    obtain ⟨es, p⟩ := x
    obtain ⟨b1, b2, hn, hp⟩ := hs
    have c0 := b1.cell (j := 0) rfl
    have c1 := b1.cell (j := 1) rfl
    have c2 := b1.cell (j := 2) rfl
    have fr1 := b1.free 1
    have fr2 := b1.free 2
    obtain ⟨u0, hu0⟩ : ∃ u, es[k]? = some u := ⟨_, List.getElem?_eq_getElem (by omega)⟩
    have c3 := b2.cell hu0
    have fr3 := b2.free k
    have HN := Lib.hid hn
    clear hu0 hn
    cases hr : getB l p with
    | none =>
      have HA : Hid (adv (fB l) k (some (es, p)) = none) := Lib.hid (by unfold adv fB; simp [hr])
      have G := get.bool_any bv l p w.drew (hR.below (Below.refl _ _).drew (Nat.le_refl _)) (by omega) (by omega)
      rw [hr] at G
      clear hr
      go_enter Try.func53, Try.ntmps53
      go_wp2_with fail
      refine mix.wp_region_mix (fun x => ∃ m, x = w.drewN m) mix.noOper [([0, 1, 2, 3, 4, 5, 6, 7, 8], 9)] [10, 11, 12, 13, 14, 15, 16] (by kernel_rfl) (by kernel_rfl) (fun _ _ _ d _ h => by cases d <;> exact h) ?_ ?_
      · exact ⟨1, rfl⟩
      rw [mix.wpMix_cons]
      simp only [List.map_cons, List.map_nil, List.getD_cons_succ, List.getD_cons_zero]
      repeat (go_big_quiet_step (fail))
      refine wpQuiet_nil ?_
      refine mix.callAt_step (by rfl) (fun K hK => ?_)
      go_simp
      refine (G).mono ?_
      rintro r w' ⟨rfl, rfl⟩
      simp only [vB]
      go_wp2_with fail
      refine ⟨⟨1, rfl⟩, ?_⟩
      rw [mix.wpMix_nil]
      simp only [List.map_cons, List.map_nil, List.getD_cons_succ, List.getD_cons_zero]
      repeat (go_big_quiet_step (fail))
      refine wpQuiet_nil ?_
      go_wp2_with fail
      go_end0
      exact failed hR hB1 hB2 hne hbv b1 b2 HN.out HA.out
    | some q =>
      obtain ⟨m, nx⟩ := q
      have hnx : nx ≤ l.length := (getB_seg hr).2.1
      have HA : Hid (adv (fB l) k (some (es, p)) = some (es.set k (.bool m), nx)) := Lib.hid (by unfold adv fB; simp [hr])
      have G := get.bool_any bv l p w.drew (hR.below (Below.refl _ _).drew (Nat.le_refl _)) (by omega) (by omega)
      rw [hr] at G
      clear hr
      go_enter Try.func53, Try.ntmps53
      go_wp2_with fail
      refine mix.wp_region_mix (fun x => ∃ m, x = w.drewN m) mix.noOper [([0, 1, 2, 3, 4, 5, 6, 7, 8], 9)] [10, 11, 12, 13, 14, 15, 16] (by kernel_rfl) (by kernel_rfl) (fun _ _ _ d _ h => by cases d <;> exact h) ?_ ?_
      · exact ⟨1, rfl⟩
      rw [mix.wpMix_cons]
      simp only [List.map_cons, List.map_nil, List.getD_cons_succ, List.getD_cons_zero]
      repeat (go_big_quiet_step (fail))
      refine wpQuiet_nil ?_
      refine mix.callAt_step (by rfl) (fun K hK => ?_)
      go_simp
      refine (G).mono ?_
      rintro r w' ⟨rfl, rfl⟩
      simp only [vB]
      go_wp2_with fail
      refine ⟨⟨1, rfl⟩, ?_⟩
      rw [mix.wpMix_nil]
      simp only [List.map_cons, List.map_nil, List.getD_cons_succ, List.getD_cons_zero]
      repeat (go_big_quiet_step (fail))
      refine wpQuiet_nil ?_
      go_wp2_with fail
      go_end0
      exact filled hR hB1 hB2 hne hbv b1 b2 HN.out HA.out (by omega)

end Go.Proofs.Ytolgbnpginifkaa.into
