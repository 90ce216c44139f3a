/- The contracts of msg.into: a field is read, or the reader isn't ok any more. -/
import Derived.Test.YtolgbnpginifkaaIntoV
import Derived.Test.YtolgbnpginifkaaEntGet
import Derived.Test.YtolgbnpginifkaaMsgD
import Derived.Test.YtolgbnpginifkaaRep
namespace Go.Proofs.Ytolgbnpginifkaa.minto
open Go.ChangeShapes Go.WideShapes Go.ChangeAt Go.RowKit codec st get blk rep ent msgd entget
open into (adv fI fT fB fV)
set_option linter.unusedVariables false

/-- A cell's kind. -/
def kd : Value → Nat
  | .int .i64 _ => 1
  | .string _ => 2
  | .bool _ => 3
  | .complex .f64 _ _ => 4
  | .slice _ _ _ => 5
  | _ => 0
theorem kd1 {v : Value} (h : kd v = 1) : ∃ n, v = .int .i64 n := by
  unfold kd at h
  split at h <;> first | exact ⟨_, rfl⟩ | (exfalso; omega)
theorem kd2 {v : Value} (h : kd v = 2) : ∃ n, v = .string n := by
  unfold kd at h
  split at h <;> first | exact ⟨_, rfl⟩ | (exfalso; omega)
theorem kd3 {v : Value} (h : kd v = 3) : ∃ n, v = .bool n := by
  unfold kd at h
  split at h <;> first | exact ⟨_, rfl⟩ | (exfalso; omega)
theorem kd4 {v : Value} (h : kd v = 4) : ∃ n m, v = .complex .f64 n m := by
  unfold kd at h
  split at h <;> first | exact ⟨_, _, rfl⟩ | (exfalso; omega)
theorem kd5 {v : Value} (h : kd v = 5) : ∃ n m k, v = .slice n m k := by
  unfold kd at h
  split at h <;> first | exact ⟨_, _, _, rfl⟩ | (exfalso; omega)
theorem kd_set {es : List Value} {ks : List Nat} {k : Nat} {v : Value} (h : es.map kd = ks) (hk : ks[k]? = some (kd v)) : (es.set k v).map kd = ks := by
  subst h
  rw [List.map_set]
  apply List.ext_getElem?
  intro i
  rw [List.getElem?_set]
  split
  · rename_i e
    subst e
    split
    · exact hk.symm
    · rename_i h2
      rw [List.getElem?_eq_none (by omega)]
  · rfl

theorem kd_at {es : List Value} {ks : List Nat} {k m : Nat} (h : es.map kd = ks) (hk : ks[k]? = some m) : ∃ u, es[k]? = some u := by
  subst h
  rw [List.getElem?_map] at hk
  obtain ⟨u, hu, _⟩ := Option.map_eq_some_iff.1 hk
  exact ⟨u, hu⟩

/-- What has been read: the target's cells (of the kinds ks), and the place behind; or nothing. -/
def Rst (B rb eb : Nat) (bv : Value) (l : List UInt8) (ks : List Nat) (s : Option (List Value × Nat)) (w : World) : Prop :=
  Rd w bv l ∧ B ≤ rb ∧ B ≤ eb ∧ rb ≠ eb ∧ (∀ k, bv.ownBlock = some k → l ≠ [] → k < B) ∧
  match s with
  | some (es, p) => Blk w rb [bv, .int .i64 p, .bool true] ∧ Blk w eb es ∧ es.map kd = ks ∧ p ≤ 9223372036854775000
  | none => ∃ p es, Blk w rb [bv, .int .i64 (p : Nat), .bool false] ∧ Blk w eb es ∧ es.map kd = ks

theorem Rst.start {w : World} {a : Option Addr} {len cap : Nat} {l : List UInt8} (hR : Rd w (.slice a len cap) l) (zs : List Value) (T T' : TypeId) (o : Obj) (at_ : Nat) (ha : at_ ≤ 9223372036854775000) (b1 b2 : Nat) (h1 : b1 = w.heap.size + 1) (h2 : b2 = w.heap.size + 1 + 1)
    (cs : Array Value) (hcs : cs = zs.toArray) (ks : List Nat) (hk : zs.map kd = ks) :
    Rst (w.heap.size + 1) b2 b1 (.slice a len cap) l ks (some (zs, at_)) (((w.alloc o).alloc (.cells cs T)).alloc (.cells #[.slice a len cap, .int .i64 at_, .bool true] T')) := by
  obtain ⟨q1, q2, q3, q4, q5, q6, q7, _, q9⟩ := into.Rst.start hR zs T T' o at_ ha b1 b2 h1 h2 cs hcs
  exact ⟨q1, q2, q3, q4, q5, q6, q7, hk, q9⟩

/-- The reader went on, or stopped; blocks from lo on, and those below B, are as they were. -/
def DoneK (B lo rb eb : Nat) (bv : Value) (l : List UInt8) (ks : List Nat) (s : Option (List Value × Nat)) (w : World) (e : Ending) (w' : World) : Prop :=
  e = .returned (.tuple #[]) ∧ Below B w w' ∧ Kept (fun b => lo ≤ b) w w' ∧ Rst B rb eb bv l ks s w'

def setAt (es : List Value) (k : Nat) : List Value → List Value
  | [] => es
  | c :: r => setAt (es.set k c) (k + 1) r
theorem setAt_len : ∀ (cs es : List Value) (k : Nat), (setAt es k cs).length = es.length
  | [], _, _ => rfl
  | c :: r, es, k => by rw [setAt, setAt_len r, List.length_set]
def advS {α : Type} (g : Nat → Option (α × Nat)) (k : Nat) (cs : List Value) (s : Option (List Value × Nat)) : Option (List Value × Nat) := s.bind fun x => (g x.2).map fun y => (setAt x.1 k cs, y.2)
/-- If the reader came so far, these cells stand for what it read. -/
def RepIf {α : Type} (R : Rep α) (g : Nat → Option (α × Nat)) (cs : List Value) (s : Option (List Value × Nat)) (lo : Nat) (w : World) : Prop :=
  ∀ (es : List Value) (p : Nat) (x : α) (nx : Nat), s = some (es, p) → g p = some (x, nx) → R.rep w (fun b => lo ≤ b) x cs
theorem RepIf.keep {α : Type} {R : Rep α} {g : Nat → Option (α × Nat)} {cs : List Value} {s : Option (List Value × Nat)} {lo : Nat} {w w' : World} (h : RepIf R g cs s lo w) (k : Kept (fun b => lo ≤ b) w w') : RepIf R g cs s lo w' :=
  fun es p x nx h1 h2 => R.keep k (h es p x nx h1 h2)

def packA (cs : List Value) : Value := .agg cs.toArray
def packV (cs : List Value) : Value := cs.headD (.int .i64 0)
/-- What a reader of a T answers: what stands there, in new memory; or nothing. -/
def Got {α : Type} (R : Rep α) (pack : List Value → Value) (z : Value) (r : Option (α × Nat)) (w : World) (e : Ending) (w' : World) : Prop :=
  Below w.heap.size w w' ∧ match r with
  | none => e = .returned (.tuple #[z, .int .i64 0, .bool false])
  | some x => ∃ cs, R.rep w' (fun b => w.heap.size ≤ b) x.1 cs ∧ e = .returned (.tuple #[pack cs, .int .i64 (x.2 : Nat), .bool true])

def DoneR {α : Type} (R : Rep α) (g : Nat → Option (α × Nat)) (B lo rb eb k : Nat) (bv : Value) (l : List UInt8) (ks : List Nat) (s : Option (List Value × Nat)) (w : World) (e : Ending) (w' : World) : Prop :=
  ∃ cs, RepIf R g cs s lo w' ∧ cs.length = R.size ∧ DoneK B lo rb eb bv l ks (advS g k cs s) w e w'

theorem failedK {B lo rb eb : Nat} {bv : Value} {l : List UInt8} {ks : List Nat} {p : Nat} {s : Option (List Value × Nat)} {es : List Value} {w w1 : World} (hR : Rd w bv l) (hB1 : B ≤ rb) (hB2 : B ≤ eb) (hne : rb ≠ eb) (hlo : rb < lo) (hbv : ∀ k, bv.ownBlock = some k → l ≠ [] → k < B)
    (b1 : Blk w rb [bv, .int .i64 p, .bool true]) (b2 : Blk w eb es) (hn : es.map kd = ks) (hw : Below w.heap.size w w1) (hs : s = none) : DoneK B lo rb eb bv l ks s w (.returned (.tuple #[])) (w1.setCell ⟨rb, 2, none⟩ (.bool false)) := by
  subst hs
  have l1 := b1.lt
  have l2 := b2.lt
  have hb : Below B w (w1.setCell ⟨rb, 2, none⟩ (.bool false)) := (hw.mono (by omega)).setCell hB1 _
  refine ⟨rfl, hb, (Kept.ofBelow hw).setCell _ _ (fun h => ?_), hR.belowOf hb hbv, hB1, hB2, hne, hbv, p, es, (b1.below hw l1).set 2 (.bool false), (b2.below hw l2).other _ (fun e => hne e.symm), hn⟩
  simp only at h
  omega

theorem filledK {B lo rb eb k : Nat} {bv : Value} {l : List UInt8} {ks : List Nat} {p nx : Nat} {s : Option (List Value × Nat)} {es : List Value} {v : Value} {w w1 : World} (hR : Rd w bv l) (hB1 : B ≤ rb) (hB2 : B ≤ eb) (hne : rb ≠ eb) (hlo : rb < lo) (hlo2 : eb < lo) (hbv : ∀ k, bv.ownBlock = some k → l ≠ [] → k < B)
    (b1 : Blk w rb [bv, .int .i64 p, .bool true]) (b2 : Blk w eb es) (hn : es.map kd = ks) (hw : Below w.heap.size w w1) (hs : s = some (es.set k v, nx)) (hkd : ks[k]? = some (kd v)) (hx : nx ≤ 9223372036854775000) :
    DoneK B lo rb eb bv l ks s w (.returned (.tuple #[])) ((w1.setCell ⟨eb, k, none⟩ v).setCell ⟨rb, 1, none⟩ (.int .i64 nx)) := by
  subst hs
  have l1 := b1.lt
  have l2 := b2.lt
  have hb : Below B w ((w1.setCell ⟨eb, k, none⟩ v).setCell ⟨rb, 1, none⟩ (.int .i64 nx)) := ((hw.mono (by omega)).setCell hB2 _).setCell hB1 _
  refine ⟨rfl, hb, ((Kept.ofBelow hw).setCell _ _ (fun h => ?_)).setCell _ _ (fun h => ?_), hR.belowOf hb hbv, hB1, hB2, hne, hbv, ((b1.below hw l1).other _ hne).set 1 _, ((b2.below hw l2).set k v).other _ (fun e => hne e.symm), kd_set hn hkd, hx⟩
  · simp only at h
    omega
  · simp only at h
    omega

/-- .. five cells. -/
theorem filled5 {B lo rb eb k : Nat} {bv : Value} {l : List UInt8} {ks : List Nat} {p nx : Nat} {s : Option (List Value × Nat)} {es : List Value} {v0 v1 v2 v3 v4 : Value} {w w1 : World} (hR : Rd w bv l) (hB1 : B ≤ rb) (hB2 : B ≤ eb) (hne : rb ≠ eb) (hlo : rb < lo) (hlo2 : eb < lo) (hbv : ∀ k, bv.ownBlock = some k → l ≠ [] → k < B)
    (b1 : Blk w rb [bv, .int .i64 p, .bool true]) (b2 : Blk w eb es) (hn : es.map kd = ks) (hw : Below w.heap.size w w1) (hs : s = some (setAt es k [v0, v1, v2, v3, v4], nx)) (hk0 : ks[k]? = some (kd v0)) (hk1 : ks[k + 1]? = some (kd v1)) (hk2 : ks[k + 2]? = some (kd v2)) (hk3 : ks[k + 3]? = some (kd v3)) (hk4 : ks[k + 4]? = some (kd v4)) (hx : nx ≤ 9223372036854775000) :
    DoneK B lo rb eb bv l ks s w (.returned (.tuple #[])) ((((((w1.setCell ⟨eb, k, none⟩ v0).setCell ⟨eb, k + 1, none⟩ v1).setCell ⟨eb, k + 2, none⟩ v2).setCell ⟨eb, k + 3, none⟩ v3).setCell ⟨eb, k + 4, none⟩ v4).setCell ⟨rb, 1, none⟩ (.int .i64 nx)) := by
  subst hs
  have l1 := b1.lt
  have l2 := b2.lt
  have hb : Below B w ((((((w1.setCell ⟨eb, k, none⟩ v0).setCell ⟨eb, k + 1, none⟩ v1).setCell ⟨eb, k + 2, none⟩ v2).setCell ⟨eb, k + 3, none⟩ v3).setCell ⟨eb, k + 4, none⟩ v4).setCell ⟨rb, 1, none⟩ (.int .i64 nx)) :=
    ((((((hw.mono (by omega)).setCell hB2 _).setCell hB2 _).setCell hB2 _).setCell hB2 _).setCell hB2 _).setCell hB1 _
  have ne1 : ¬ lo ≤ eb := by omega
  have ne2 : ¬ lo ≤ rb := by omega
  exact ⟨rfl, hb, ((((((Kept.ofBelow hw).setCell _ _ ne1).setCell _ _ ne1).setCell _ _ ne1).setCell _ _ ne1).setCell _ _ ne1).setCell _ _ ne2, hR.belowOf hb hbv, hB1, hB2, hne, hbv,
    ((((((b1.below hw l1).other _ hne).other _ hne).other _ hne).other _ hne).other _ hne).set 1 _,
    ((((((b2.below hw l2).set k v0).set (k + 1) v1).set (k + 2) v2).set (k + 3) v3).set (k + 4) v4).other _ (fun e => hne e.symm), kd_set (kd_set (kd_set (kd_set (kd_set hn hk0) hk1) hk2) hk3) hk4, hx⟩

/-- A reader that isn't ok reads nothing more. -/
theorem still {B lo rb eb : Nat} {bv : Value} {l : List UInt8} {ks : List Nat} {w : World} (h : Rst B rb eb bv l ks none w) (f : Option (List Value × Nat) → Option (List Value × Nat)) (hf : f none = none) : DoneK B lo rb eb bv l ks (f none) w (.returned (.tuple #[])) w := by
  rw [hf]
  exact ⟨rfl, Below.refl _ _, Kept.refl _ _, h⟩
theorem stillR {α : Type} {R : Rep α} {g : Nat → Option (α × Nat)} {B lo rb eb k : Nat} {bv : Value} {l : List UInt8} {ks : List Nat} {w : World} (h : Rst B rb eb bv l ks none w) (cs : List Value) (hcs : cs.length = R.size) : DoneR R g B lo rb eb k bv l ks none w (.returned (.tuple #[])) w :=
  ⟨cs, fun es p x nx h1 => by (cases h1), hcs, rfl, Below.refl _ _, Kept.refl _ _, h⟩

def cMem (x : MemD) : List Value := [.int .i64 x.node, .int .i64 x.boot]
def cSn (x : SnD) : List Value := [.int .i64 x.sess, .int .i64 x.num, .complex .f64 (flt.F x.ver.1) (flt.F x.ver.2), .int .i64 x.kind, .int .i64 x.code, .string ⟨x.res.toArray⟩, .bool x.has]
/-- An operation, an entry, a member, a seen call in memory. -/
def rO : Rep OpD := flat cO 5 (fun _ => rfl) (by simp [cO, Value.oneCell'])
def rE : Rep EnD := flat cE 11 (fun _ => rfl) (by simp [cE, Value.oneCell'])
def rMem : Rep MemD := flat cMem 2 (fun _ => rfl) (by simp [cMem, Value.oneCell'])
def rSn : Rep SnD := flat cSn 7 (fun _ => rfl) (by simp [cSn, Value.oneCell'])
/-- A view. -/
def rVw : Rep VwD where
  size := 5
  rep := fun w S x cs => ∃ v, cs = [.int .i64 x.shard, .int .i64 x.epoch, .int .i64 x.gen, .int .i64 x.phase, v] ∧ (list rMem).rep w S x.chain [v]
  len := fun ⟨_, e, _⟩ => by subst e; rfl
  one := fun ⟨v, e, h⟩ u hu => by
    subst e
    simp only [List.mem_cons, List.not_mem_nil, or_false] at hu
    rcases hu with rfl | rfl | rfl | rfl | rfl
    · rfl
    · rfl
    · rfl
    · rfl
    · exact (list rMem).one h _ (by simp)
  keep := fun k ⟨v, e, h⟩ => ⟨v, e, (list rMem).keep k h⟩
  mono := fun k ⟨v, e, h⟩ => ⟨v, e, (list rMem).mono k h⟩
/-- An image. -/
def rIm : Rep ImD where
  size := 5
  rep := fun w S x cs => ∃ v u, cs = [.complex .f64 (flt.F x.floor.1) (flt.F x.floor.2), .complex .f64 (flt.F x.last.1) (flt.F x.last.2), .int .i64 x.gen, v, u] ∧ (list rE).rep w S x.log [v] ∧ (list rSn).rep w S x.seen [u]
  len := fun ⟨_, _, e, _⟩ => by subst e; rfl
  one := fun ⟨v, u, e, h, h'⟩ y hy => by
    subst e
    simp only [List.mem_cons, List.not_mem_nil, or_false] at hy
    rcases hy with rfl | rfl | rfl | rfl | rfl
    · rfl
    · rfl
    · rfl
    · exact (list rE).one h _ (by simp)
    · exact (list rSn).one h' _ (by simp)
  keep := fun k ⟨v, u, e, h, h'⟩ => ⟨v, u, e, (list rE).keep k h, (list rSn).keep k h'⟩
  mono := fun k ⟨v, u, e, h, h'⟩ => ⟨v, u, e, (list rE).mono k h, (list rSn).mono k h'⟩

set_option maxRecDepth 100000 in
theorem int_any (B lo rb eb k : Nat) (bv : Value) (l : List UInt8) (ks : List Nat) (s : Option (List Value × Nat)) (w : World) (h : Rst B rb eb bv l ks s w) (hlo : rb < lo ∧ eb < lo) (hk : ks[k]? = some 1) (hl : l.length ≤ 9223372036854000000) :
    Calls Try.prog 58 #[.pointer (some ⟨rb, 0, none⟩), .pointer (some ⟨eb, k, none⟩), .func (.func 16) #[] #[]] w (DoneK B lo rb eb bv l ks (adv (fI l) k s) w) := by
  have H := Lib.hid h
  obtain ⟨hR, hB1, hB2, hne, hbv, hs⟩ := h
  cases s with
  | none =>
    obtain ⟨p, es, b1, b2, hn⟩ := hs
    have c2 := b1.cell (j := 2) rfl
    go_enter Try.func58, Try.ntmps58
    go_wp2_with fail
    go_end0
    exact still H.out (adv (fI l) k) rfl
  | some x =>
    obtain ⟨es, p⟩ := x
    obtain ⟨b1, b2, hn, hp⟩ := hs
    have c0 := b1.cell (j := 0) rfl
    have c1 := b1.cell (j := 1) rfl
    have c2 := b1.cell (j := 2) rfl
    have fr1 := b1.free 1
    have fr2 := b1.free 2
    obtain ⟨u0, hu0⟩ : ∃ u, es[k]? = some u := kd_at hn hk
    have c3 := b2.cell hu0
    have fr3 := b2.free k
    have HN := Lib.hid hn
    clear hu0 hn
    cases hr : getI l p with
    | none =>
      have HA : Hid (adv (fI l) k (some (es, p)) = none) := Lib.hid (by unfold adv fI; simp [hr])
      have G := get.int_any bv l p w.drew (hR.below (Below.refl _ _).drew (Nat.le_refl _)) (by omega) (by omega)
      rw [hr] at G
      clear hr
      go_enter Try.func58, Try.ntmps58
      go_wp2_with fail
      refine mix.wp_region_mix (fun x => ∃ m, x = w.drewN m) mix.noOper [([0, 1, 2, 3, 4, 5, 6, 7, 8], 9)] [10, 11, 12, 13, 14, 15, 16] (by kernel_rfl) (by kernel_rfl) (fun _ _ _ d _ h => by cases d <;> exact h) ?_ ?_
      · exact ⟨1, rfl⟩
      rw [mix.wpMix_cons]
      simp only [List.map_cons, List.map_nil, List.getD_cons_succ, List.getD_cons_zero]
      repeat (go_big_quiet_step (fail))
      refine wpQuiet_nil ?_
      refine mix.callAt_step (by rfl) (fun K hK => ?_)
      go_simp
      refine (G).mono ?_
      rintro r w' ⟨rfl, rfl⟩
      simp only [vI]
      go_wp2_with fail
      refine ⟨⟨1, rfl⟩, ?_⟩
      rw [mix.wpMix_nil]
      simp only [List.map_cons, List.map_nil, List.getD_cons_succ, List.getD_cons_zero]
      repeat (go_big_quiet_step (fail))
      refine wpQuiet_nil ?_
      go_wp2_with fail
      go_end0
      exact failedK (w1 := w.drew) hR hB1 hB2 hne hlo.1 hbv b1 b2 HN.out (Below.refl _ _).drew HA.out
    | some q =>
      obtain ⟨m, nx⟩ := q
      have hnx : nx ≤ l.length := (getI_seg hr).2.1
      have HA : Hid (adv (fI l) k (some (es, p)) = some (es.set k (.int .i64 m), nx)) := Lib.hid (by unfold adv fI; simp [hr])
      have G := get.int_any bv l p w.drew (hR.below (Below.refl _ _).drew (Nat.le_refl _)) (by omega) (by omega)
      rw [hr] at G
      clear hr
      go_enter Try.func58, Try.ntmps58
      go_wp2_with fail
      refine mix.wp_region_mix (fun x => ∃ m, x = w.drewN m) mix.noOper [([0, 1, 2, 3, 4, 5, 6, 7, 8], 9)] [10, 11, 12, 13, 14, 15, 16] (by kernel_rfl) (by kernel_rfl) (fun _ _ _ d _ h => by cases d <;> exact h) ?_ ?_
      · exact ⟨1, rfl⟩
      rw [mix.wpMix_cons]
      simp only [List.map_cons, List.map_nil, List.getD_cons_succ, List.getD_cons_zero]
      repeat (go_big_quiet_step (fail))
      refine wpQuiet_nil ?_
      refine mix.callAt_step (by rfl) (fun K hK => ?_)
      go_simp
      refine (G).mono ?_
      rintro r w' ⟨rfl, rfl⟩
      simp only [vI]
      go_wp2_with fail
      refine ⟨⟨1, rfl⟩, ?_⟩
      rw [mix.wpMix_nil]
      simp only [List.map_cons, List.map_nil, List.getD_cons_succ, List.getD_cons_zero]
      repeat (go_big_quiet_step (fail))
      refine wpQuiet_nil ?_
      go_wp2_with fail
      go_end0
      exact filledK (w1 := w.drew) hR hB1 hB2 hne hlo.1 hlo.2 hbv b1 b2 HN.out (Below.refl _ _).drew HA.out hk (by omega)

set_option maxRecDepth 100000 in
theorem text_any (B lo rb eb k : Nat) (bv : Value) (l : List UInt8) (ks : List Nat) (s : Option (List Value × Nat)) (w : World) (h : Rst B rb eb bv l ks s w) (hlo : rb < lo ∧ eb < lo) (hk : ks[k]? = some 2) (hl : l.length ≤ 9223372036854000000) :
    Calls Try.prog 60 #[.pointer (some ⟨rb, 0, none⟩), .pointer (some ⟨eb, k, none⟩), .func (.func 17) #[] #[]] w (DoneK B lo rb eb bv l ks (adv (fT l) k s) w) := by
  have H := Lib.hid h
  obtain ⟨hR, hB1, hB2, hne, hbv, hs⟩ := h
  cases s with
  | none =>
    obtain ⟨p, es, b1, b2, hn⟩ := hs
    have c2 := b1.cell (j := 2) rfl
    go_enter Try.func60, Try.ntmps60
    go_wp2_with fail
    go_end0
    exact still H.out (adv (fT l) k) rfl
  | some x =>
    obtain ⟨es, p⟩ := x
    obtain ⟨b1, b2, hn, hp⟩ := hs
    have c0 := b1.cell (j := 0) rfl
    have c1 := b1.cell (j := 1) rfl
    have c2 := b1.cell (j := 2) rfl
    have fr1 := b1.free 1
    have fr2 := b1.free 2
    obtain ⟨u0, hu0⟩ : ∃ u, es[k]? = some u := kd_at hn hk
    have c3 := b2.cell hu0
    have fr3 := b2.free k
    have HN := Lib.hid hn
    clear hu0 hn
    cases hr : getT l p with
    | none =>
      have HA : Hid (adv (fT l) k (some (es, p)) = none) := Lib.hid (by unfold adv fT; simp [hr])
      have G := get.text_any bv l p w.drew (hR.below (Below.refl _ _).drew (Nat.le_refl _)) (by omega) (by omega)
      rw [hr] at G
      clear hr
      go_enter Try.func60, Try.ntmps60
      go_wp2_with fail
      refine mix.wp_region_mix (fun x => ∃ m, x = w.drewN m) mix.noOper [([0, 1, 2, 3, 4, 5, 6, 7, 8], 9)] [10, 11, 12, 13, 14, 15, 16] (by kernel_rfl) (by kernel_rfl) (fun _ _ _ d _ h => by cases d <;> exact h) ?_ ?_
      · exact ⟨1, rfl⟩
      rw [mix.wpMix_cons]
      simp only [List.map_cons, List.map_nil, List.getD_cons_succ, List.getD_cons_zero]
      repeat (go_big_quiet_step (fail))
      refine wpQuiet_nil ?_
      refine mix.callAt_step (by rfl) (fun K hK => ?_)
      go_simp
      refine (G).mono ?_
      rintro r w' ⟨rfl, rfl⟩
      simp only [vT]
      go_wp2_with fail
      refine ⟨⟨1, rfl⟩, ?_⟩
      rw [mix.wpMix_nil]
      simp only [List.map_cons, List.map_nil, List.getD_cons_succ, List.getD_cons_zero]
      repeat (go_big_quiet_step (fail))
      refine wpQuiet_nil ?_
      go_wp2_with fail
      go_end0
      exact failedK (w1 := w.drew) hR hB1 hB2 hne hlo.1 hbv b1 b2 HN.out (Below.refl _ _).drew HA.out
    | some q =>
      obtain ⟨m, nx⟩ := q
      have hnx : nx ≤ l.length := (getT_seg hr).2.1
      have HA : Hid (adv (fT l) k (some (es, p)) = some (es.set k (.string ⟨m.toArray⟩), nx)) := Lib.hid (by unfold adv fT; simp [hr])
      have G := get.text_any bv l p w.drew (hR.below (Below.refl _ _).drew (Nat.le_refl _)) (by omega) (by omega)
      rw [hr] at G
      clear hr
      go_enter Try.func60, Try.ntmps60
      go_wp2_with fail
      refine mix.wp_region_mix (fun x => ∃ m, x = w.drewN m) mix.noOper [([0, 1, 2, 3, 4, 5, 6, 7, 8], 9)] [10, 11, 12, 13, 14, 15, 16] (by kernel_rfl) (by kernel_rfl) (fun _ _ _ d _ h => by cases d <;> exact h) ?_ ?_
      · exact ⟨1, rfl⟩
      rw [mix.wpMix_cons]
      simp only [List.map_cons, List.map_nil, List.getD_cons_succ, List.getD_cons_zero]
      repeat (go_big_quiet_step (fail))
      refine wpQuiet_nil ?_
      refine mix.callAt_step (by rfl) (fun K hK => ?_)
      go_simp
      refine (G).mono ?_
      rintro r w' ⟨rfl, rfl⟩
      simp only [vT]
      go_wp2_with fail
      refine ⟨⟨1, rfl⟩, ?_⟩
      rw [mix.wpMix_nil]
      simp only [List.map_cons, List.map_nil, List.getD_cons_succ, List.getD_cons_zero]
      repeat (go_big_quiet_step (fail))
      refine wpQuiet_nil ?_
      go_wp2_with fail
      go_end0
      exact filledK (w1 := w.drew) hR hB1 hB2 hne hlo.1 hlo.2 hbv b1 b2 HN.out (Below.refl _ _).drew HA.out hk (by omega)

set_option maxRecDepth 100000 in
theorem bool_any (B lo rb eb k : Nat) (bv : Value) (l : List UInt8) (ks : List Nat) (s : Option (List Value × Nat)) (w : World) (h : Rst B rb eb bv l ks s w) (hlo : rb < lo ∧ eb < lo) (hk : ks[k]? = some 3) (hl : l.length ≤ 9223372036854000000) :
    Calls Try.prog 59 #[.pointer (some ⟨rb, 0, none⟩), .pointer (some ⟨eb, k, none⟩), .func (.func 29) #[] #[]] w (DoneK B lo rb eb bv l ks (adv (fB l) k s) w) := by
  have H := Lib.hid h
  obtain ⟨hR, hB1, hB2, hne, hbv, hs⟩ := h
  cases s with
  | none =>
    obtain ⟨p, es, b1, b2, hn⟩ := hs
    have c2 := b1.cell (j := 2) rfl
    go_enter Try.func59, Try.ntmps59
    go_wp2_with fail
    go_end0
    exact still H.out (adv (fB l) k) rfl
  | some x =>
    obtain ⟨es, p⟩ := x
    obtain ⟨b1, b2, hn, hp⟩ := hs
    have c0 := b1.cell (j := 0) rfl
    have c1 := b1.cell (j := 1) rfl
    have c2 := b1.cell (j := 2) rfl
    have fr1 := b1.free 1
    have fr2 := b1.free 2
    obtain ⟨u0, hu0⟩ : ∃ u, es[k]? = some u := kd_at hn hk
    have c3 := b2.cell hu0
    have fr3 := b2.free k
    have HN := Lib.hid hn
    clear hu0 hn
    cases hr : getB l p with
    | none =>
      have HA : Hid (adv (fB l) k (some (es, p)) = none) := Lib.hid (by unfold adv fB; simp [hr])
      have G := get.bool_any bv l p w.drew (hR.below (Below.refl _ _).drew (Nat.le_refl _)) (by omega) (by omega)
      rw [hr] at G
      clear hr
      go_enter Try.func59, Try.ntmps59
      go_wp2_with fail
      refine mix.wp_region_mix (fun x => ∃ m, x = w.drewN m) mix.noOper [([0, 1, 2, 3, 4, 5, 6, 7, 8], 9)] [10, 11, 12, 13, 14, 15, 16] (by kernel_rfl) (by kernel_rfl) (fun _ _ _ d _ h => by cases d <;> exact h) ?_ ?_
      · exact ⟨1, rfl⟩
      rw [mix.wpMix_cons]
      simp only [List.map_cons, List.map_nil, List.getD_cons_succ, List.getD_cons_zero]
      repeat (go_big_quiet_step (fail))
      refine wpQuiet_nil ?_
      refine mix.callAt_step (by rfl) (fun K hK => ?_)
      go_simp
      refine (G).mono ?_
      rintro r w' ⟨rfl, rfl⟩
      simp only [vB]
      go_wp2_with fail
      refine ⟨⟨1, rfl⟩, ?_⟩
      rw [mix.wpMix_nil]
      simp only [List.map_cons, List.map_nil, List.getD_cons_succ, List.getD_cons_zero]
      repeat (go_big_quiet_step (fail))
      refine wpQuiet_nil ?_
      go_wp2_with fail
      go_end0
      exact failedK (w1 := w.drew) hR hB1 hB2 hne hlo.1 hbv b1 b2 HN.out (Below.refl _ _).drew HA.out
    | some q =>
      obtain ⟨m, nx⟩ := q
      have hnx : nx ≤ l.length := (getB_seg hr).2.1
      have HA : Hid (adv (fB l) k (some (es, p)) = some (es.set k (.bool m), nx)) := Lib.hid (by unfold adv fB; simp [hr])
      have G := get.bool_any bv l p w.drew (hR.below (Below.refl _ _).drew (Nat.le_refl _)) (by omega) (by omega)
      rw [hr] at G
      clear hr
      go_enter Try.func59, Try.ntmps59
      go_wp2_with fail
      refine mix.wp_region_mix (fun x => ∃ m, x = w.drewN m) mix.noOper [([0, 1, 2, 3, 4, 5, 6, 7, 8], 9)] [10, 11, 12, 13, 14, 15, 16] (by kernel_rfl) (by kernel_rfl) (fun _ _ _ d _ h => by cases d <;> exact h) ?_ ?_
      · exact ⟨1, rfl⟩
      rw [mix.wpMix_cons]
      simp only [List.map_cons, List.map_nil, List.getD_cons_succ, List.getD_cons_zero]
      repeat (go_big_quiet_step (fail))
      refine wpQuiet_nil ?_
      refine mix.callAt_step (by rfl) (fun K hK => ?_)
      go_simp
      refine (G).mono ?_
      rintro r w' ⟨rfl, rfl⟩
      simp only [vB]
      go_wp2_with fail
      refine ⟨⟨1, rfl⟩, ?_⟩
      rw [mix.wpMix_nil]
      simp only [List.map_cons, List.map_nil, List.getD_cons_succ, List.getD_cons_zero]
      repeat (go_big_quiet_step (fail))
      refine wpQuiet_nil ?_
      go_wp2_with fail
      go_end0
      exact filledK (w1 := w.drew) hR hB1 hB2 hne hlo.1 hlo.2 hbv b1 b2 HN.out (Below.refl _ _).drew HA.out hk (by omega)

set_option maxRecDepth 100000 in
theorem ver_any (B lo rb eb k : Nat) (bv : Value) (l : List UInt8) (ks : List Nat) (s : Option (List Value × Nat)) (w : World) (h : Rst B rb eb bv l ks s w) (hlo : rb < lo ∧ eb < lo) (hk : ks[k]? = some 4) (hl : l.length ≤ 9223372036854000000) :
    Calls Try.prog 61 #[.pointer (some ⟨rb, 0, none⟩), .pointer (some ⟨eb, k, none⟩), .func (.func 27) #[] #[]] w (DoneK B lo rb eb bv l ks (adv (fV l) k s) w) := by
  have H := Lib.hid h
  obtain ⟨hR, hB1, hB2, hne, hbv, hs⟩ := h
  cases s with
  | none =>
    obtain ⟨p, es, b1, b2, hn⟩ := hs
    have c2 := b1.cell (j := 2) rfl
    go_enter Try.func61, Try.ntmps61
    go_wp2_with fail
    go_end0
    exact still H.out (adv (fV l) k) rfl
  | some x =>
    obtain ⟨es, p⟩ := x
    obtain ⟨b1, b2, hn, hp⟩ := hs
    have c0 := b1.cell (j := 0) rfl
    have c1 := b1.cell (j := 1) rfl
    have c2 := b1.cell (j := 2) rfl
    have fr1 := b1.free 1
    have fr2 := b1.free 2
    obtain ⟨u0, hu0⟩ : ∃ u, es[k]? = some u := kd_at hn hk
    have c3 := b2.cell hu0
    have hst : ∀ (x y : Nat) (w : World) (a : Addr) (q : Mode), (store a (.complex .f64 x y) q).run Try.prog w = stored Try.prog w a (.complex .f64 x y) q := fun x y w a q => run_store Try.prog w a _ q rfl
    have fr3 := b2.free k
    have HN := Lib.hid hn
    clear hu0 hn
    cases hr : getV l p with
    | none =>
      have HA : Hid (adv (fV l) k (some (es, p)) = none) := Lib.hid (by unfold adv fV; simp [hr])
      have G := get.ver_any bv l p w.drew (hR.below (Below.refl _ _).drew (Nat.le_refl _)) (by omega) (by omega)
      rw [hr] at G
      clear hr
      go_enter Try.func61, Try.ntmps61
      go_wp2_with fail
      refine mix.wp_region_mix (fun x => ∃ m, x = w.drewN m) mix.noOper [([0, 1, 2, 3, 4, 5, 6, 7, 8], 9)] [10, 11, 12, 13, 14, 15, 16] (by kernel_rfl) (by kernel_rfl) (fun _ _ _ d _ h => by cases d <;> exact h) ?_ ?_
      · exact ⟨1, rfl⟩
      rw [mix.wpMix_cons]
      simp only [List.map_cons, List.map_nil, List.getD_cons_succ, List.getD_cons_zero]
      repeat (go_big_quiet_step (fail))
      refine wpQuiet_nil ?_
      refine mix.callAt_step (by rfl) (fun K hK => ?_)
      go_simp
      refine (G).mono ?_
      rintro r w' ⟨rfl, rfl⟩
      simp only [vV]
      go_wp2_with fail
      refine ⟨⟨1, rfl⟩, ?_⟩
      rw [mix.wpMix_nil]
      simp only [List.map_cons, List.map_nil, List.getD_cons_succ, List.getD_cons_zero]
      repeat (go_big_quiet_step (fail))
      refine wpQuiet_nil ?_
      go_wp2_with fail
      go_end0
      exact failedK (w1 := w.drew) hR hB1 hB2 hne hlo.1 hbv b1 b2 HN.out (Below.refl _ _).drew HA.out
    | some q =>
      obtain ⟨⟨m0, m1⟩, nx⟩ := q
      have hnx : nx ≤ l.length := (getV_seg hr).2.1
      have HA : Hid (adv (fV l) k (some (es, p)) = some (es.set k (.complex .f64 (flt.F m0) (flt.F m1)), nx)) := Lib.hid (by unfold adv fV; simp [hr])
      have G := get.ver_any bv l p w.drew (hR.below (Below.refl _ _).drew (Nat.le_refl _)) (by omega) (by omega)
      rw [hr] at G
      clear hr
      go_enter Try.func61, Try.ntmps61
      go_wp2_with fail
      refine mix.wp_region_mix (fun x => ∃ m, x = w.drewN m) mix.noOper [([0, 1, 2, 3, 4, 5, 6, 7, 8], 9)] [10, 11, 12, 13, 14, 15, 16] (by kernel_rfl) (by kernel_rfl) (fun _ _ _ d _ h => by cases d <;> exact h) ?_ ?_
      · exact ⟨1, rfl⟩
      rw [mix.wpMix_cons]
      simp only [List.map_cons, List.map_nil, List.getD_cons_succ, List.getD_cons_zero]
      repeat (go_big_quiet_step (fail))
      refine wpQuiet_nil ?_
      refine mix.callAt_step (by rfl) (fun K hK => ?_)
      go_simp
      refine (G).mono ?_
      rintro r w' ⟨rfl, rfl⟩
      simp only [vV]
      go_wp2_with fail
      refine ⟨⟨1, rfl⟩, ?_⟩
      rw [mix.wpMix_nil]
      simp only [List.map_cons, List.map_nil, List.getD_cons_succ, List.getD_cons_zero]
      repeat (go_big_quiet_step (fail))
      refine wpQuiet_nil ?_
      go_wp2_with fail
      go_end0
      exact filledK (w1 := w.drew) hR hB1 hB2 hne hlo.1 hlo.2 hbv b1 b2 HN.out (Below.refl _ _).drew HA.out hk (by omega)

end Go.Proofs.Ytolgbnpginifkaa.minto
