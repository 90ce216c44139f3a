/- The contracts of the closures of msg.listOf. -/
import Derived.Test.YtolgbnpginifkaaMGetA
import Derived.Test.YtolgbnpginifkaaEntRef2
namespace Go.Proofs.Ytolgbnpginifkaa.mlist
open Go.ChangeShapes Go.WideShapes Go.ChangeAt Go.RowKit codec st own get blk rep ent msgd entget minto
open into (adv fI fT fB fV)
set_option linter.unusedVariables false

open mdone mget
/-- A list is being read: k items so far, m are to come. -/
def LAt {α : Type} (R : Rep α) (g : List UInt8 → Nat → Option (α × Nat)) (l : List UInt8) (c p0 : Nat) (w : World) (nx v i : Value) (wr : World) : Prop :=
  ∃ (k m p : Nat) (xs : List α), i = .int .i64 k ∧ nx = .int .i64 p ∧ xs.length = k ∧ k + m = c ∧ p ≤ 9223372036854775000 ∧ Acc R w wr v xs ∧ getN g l c p0 = (getN g l m p).map fun r => (xs ++ r.1, r.2)

theorem LAt.start {α : Type} (R : Rep α) (g : List UInt8 → Nat → Option (α × Nat)) (l : List UInt8) (c p0 : Nat) (hp : p0 ≤ 9223372036854775000) (w : World) : LAt R g l c p0 w (.int .i64 p0) (.slice none 0 0) (.int .i64 0) w :=
  ⟨0, c, p0, [], rfl, rfl, rfl, by omega, hp, Acc.start R w, by simp⟩

/-- A round more. -/
theorem LAt.next {α : Type} {R : Rep α} {g : List UInt8 → Nat → Option (α × Nat)} {l : List UInt8} {c p0 k m p q : Nat} {xs : List α} {x : α} {w w' : World} {v' : Value} (hk : xs.length = k) (hm : k + (m + 1) = c)
    (hN : getN g l c p0 = (getN g l (m + 1) p).map fun r => (xs ++ r.1, r.2)) (hx : g l p = some (x, q)) (hq : q ≤ 9223372036854775000) (acc : Acc R w w' v' (xs ++ [x])) (z : Int) (hz : z = ((k + 1 : Nat) : Int)) :
    LAt R g l c p0 w (.int .i64 q) v' (.int .i64 z) w' := by
  subst hz
  refine ⟨k + 1, m, q, xs ++ [x], rfl, rfl, by simp [hk], by omega, hq, acc, ?_⟩
  rw [hN, getN_some hx, Option.map_map]
  congr 1
  funext r
  simp

theorem Got.none {α : Type} {R : Rep α} {pack : List Value → Value} {z : Value} {r : Option (α × Nat)} {w w' : World} (h : r = none) (hb : Below w.heap.size w w') : Got R pack z r w (.returned (.tuple #[z, .int .i64 0, .bool false])) w' := by
  subst h
  exact ⟨hb, rfl⟩
theorem Got.some {α : Type} {R : Rep α} {pack : List Value → Value} {z : Value} {r : Option (α × Nat)} {w w' : World} {x : α} {nx : Nat} (h : r = some (x, nx)) (hb : Below w.heap.size w w') {cs : List Value} (hr : R.rep w' (fun b => w.heap.size ≤ b) x cs) {e : Ending}
    (he : e = .returned (.tuple #[pack cs, .int .i64 (nx : Nat), .bool true])) : Got R pack z r w e w' := by
  subst h
  exact ⟨hb, cs, hr, he⟩

/-- What an append's own literal yields: one element. -/
theorem src_lit {P : Program} {w : World} {size : Nat} {tx e' T : TypeId} (hk : P.underlying tx = some (.slice e')) (news : List Value) (cs : Array Value) (hcs : cs = news.toArray) (hl : news.length = size) (h1 : ∀ u ∈ news, u.oneCell' = true) (b : Nat) (hb : b = w.heap.size) :
    Src P size tx (.slice (some ⟨b, 0, none⟩) 1 1) 1 news (w.alloc (.cells cs T)) := by
  subst hcs hb
  refine Src.ofSlice _ hk _ 1 1 news (by omega) (fun j u hu => ?_) h1
  rw [Addr.add_lit, Nat.zero_add]
  exact (Blk.new w news T).cell hu

theorem gotE {l : List UInt8} {p : Nat} {w w' : World} {e : Ending} (h : Gave w (vE (getE l p)) e w') : Got rE packA (packA zE) (getE l p) w e w' := by
  obtain ⟨rfl, hb⟩ := h
  refine ⟨hb, ?_⟩
  cases getE l p with
  | none => rfl
  | some x => exact ⟨cE x.1, rfl, rfl⟩
theorem entG_any (bv : Value) (l : List UInt8) (at_ : Nat) (w : World) (hR : Rd w bv l) (ha : at_ ≤ 9223372036854775000) (hl : l.length ≤ 9223372036854000000) :
    Calls Try.prog 31 #[bv, .int .i64 at_] w (Got rE packA (packA zE) (getE l at_) w) := (entget.ent_any bv l at_ w hR ha hl).mono fun _ _ h => gotE h

theorem info_mem : (Try.prog.info? 119).map (fun i => (i.zero, i.size, i.bytes)) = some (some (.agg #[.int .i64 0, .int .i64 0]), 2, 16) := by kernel_rfl

set_option maxRecDepth 100000 in
set_option maxHeartbeats 4000000 in
theorem lst_mem (bv : Value) (l : List UInt8) (at_ fb : Nat) (w : World) (hR : Rd w bv l) (ha : at_ ≤ 9223372036854775000) (hl : l.length ≤ 9223372036854000000) (hF : w.cell? ⟨fb, 0, none⟩ = some (.func (.func 67) #[] #[])) :
    Calls Try.prog 90 #[bv, .int .i64 at_, .pointer (some ⟨fb, 0, none⟩)] w (Got (rep.list rMem) packV (.slice none 0 0) (getL getMem l at_) w) := by
  have GI := get.int_any bv l at_ w hR ha (by omega)
  have HR := Lib.hid hR
  have hfb : fb < w.heap.size := World.block_lt_of_cell? _ _ hF
  have HF := Lib.hid hF
  clear hF
  obtain ⟨j0, hi, hz0, hz1, hz2⟩ := info_parts info_mem
  have HI := Lib.hid hi
  clear hi
  cases hr : getI l at_ with
  | none =>
    have HA : Hid (getL getMem l at_ = none) := Lib.hid (by simp [getL, hr])
    rw [hr] at GI
    clear hr
    go_enter Try.func90, Try.ntmps90
    go_wp2_with fail
    refine GI.mono ?_
    rintro r w' ⟨rfl, rfl⟩
    simp only [vI]
    go_wp2_with fail
    go_ret3
    exact Got.none HA.out (Below.refl _ _)
  | some q =>
    obtain ⟨c, p0⟩ := q
    have hb := lawI l at_ c p0 hr
    obtain ⟨_, hb1, _, hb3, hb4⟩ := hb
    rw [hr] at GI
    by_cases hc : c < 0 ∨ 4096 < c
    · have HA : Hid (getL getMem l at_ = none) := Lib.hid (by simp only [getL, hr, Option.bind_some]; rw [if_pos hc])
      clear hr
      by_cases hc1 : c < 0
      · clear hc
        go_enter Try.func90, Try.ntmps90
        go_wp2_with fail
        refine GI.mono ?_
        rintro r w' ⟨rfl, rfl⟩
        simp only [vI]
        go_wp2_with fail
        go_ret3
        exact Got.none HA.out (Below.refl _ _)
      · have hc2 : 4096 < c := by omega
        clear hc
        go_enter Try.func90, Try.ntmps90
        go_wp2_with fail
        refine GI.mono ?_
        rintro r w' ⟨rfl, rfl⟩
        simp only [vI]
        go_wp2_with fail
        go_ret3
        exact Got.none HA.out (Below.refl _ _)
    · have HA : Hid (getL getMem l at_ = getN getMem l c.toNat p0) := Lib.hid (by simp only [getL, hr, Option.bind_some]; rw [if_neg hc])
      clear hr
      obtain ⟨c, rfl⟩ : ∃ m : Nat, c = m := ⟨c.toNat, by omega⟩
      have hc3 : c ≤ 4096 := by omega
      clear hc hb3 hb4
      go_enter Try.func90, Try.ntmps90
      go_wp2_with fail
      refine GI.mono ?_
      rintro r w' ⟨rfl, rfl⟩
      simp only [vI]
      go_wp2_with fail
      go_loopw [9, 11, 33] (fun nx v i wr => LAt rMem getMem l c p0 w nx v i wr) (fun _ _ i _ => c - (intOf i).toNat)
      case atStart => exact LAt.start rMem getMem l c p0 (by omega) w
      case round =>
        obtain ⟨k, m, p, xs, rfl, rfl, hk, hm, hp, acc, hN⟩ := hrel
        have HK := Lib.hid hk
        have HN := Lib.hid hN
        have hbw := acc.1
        clear hk hN
        cases m with
        | zero =>
          have hend : ¬ k < c := by omega
          go_wp2_with fail
          go_ret3
          obtain ⟨e1, e2⟩ := acc.list
          exact Got.some (x := xs) (nx := p) (by rw [HA.out, Int.toNat_natCast, HN.out]; simp [getN]) e1 e2 rfl
        | succ m =>
          have hgo : k < c := by omega
          have hF' : wr.cell? ⟨fb, 0, none⟩ = some (.func (.func 67) #[] #[]) := by rw [hbw.cell hfb]; exact HF.out
          have hR' := HR.out.below hbw (Nat.le_refl _)
          have GG := mget.getMem_any bv l p _ hR' hp hl
          cases hr : getMem l p with
          | none =>
            have HB : Hid (getL getMem l at_ = none) := Lib.hid (by rw [HA.out, Int.toNat_natCast, HN.out, getN_none hr]; rfl)
            rw [hr] at GG
            clear hr
            go_wp2_with fail
            refine GG.mono ?_
            rintro r w1 ⟨hw1, rfl⟩
            simp only [packA, zMem]
            go_wp2_with fail
            go_ret3
            exact Got.none HB.out ((hbw.trans (hw1.mono hbw.size)).alloc (Nat.le_trans hbw.size hw1.size) _)
          | some y =>
            obtain ⟨x, q⟩ := y
            have hq := (lawMem l p x q hr).2.1
            have HX := Lib.hid hr
            rw [hr] at GG
            clear hr
            go_wp2_with fail
            refine GG.mono ?_
            rintro r w1 ⟨hw1, cs, hrep, rfl⟩
            have HREP := Lib.hid hrep
            obtain rfl : cs = cMem x := hrep
            simp only [packA, cMem]
            have accA := acc.quiet hw1
            have hlt1 := hw1.size
            have acc1 := accA.quiet ((Below.refl _ _).alloc (Nat.le_refl _) (.cells #[.int .i64 x.node, .int .i64 x.boot] 119))
            have acc2 := acc1.quiet ((Below.refl _ _).alloc (Nat.le_refl _) (.cells #[.int .i64 x.node, .int .i64 x.boot] 119))
            obtain ⟨rows0, hrows0, hown0⟩ := acc.2.2
            have hv0 := hown0.lt
            obtain ⟨ha1, ha2, rows, hrows, hown⟩ := acc2
            have HROWS := Lib.hid hrows
            clear hrows hrows0 hown0
            go_wp2_with (at_builtin; refine wpList_append rfl _ _ _ _ rfl 119 j0 (.agg #[.int .i64 0, .int .i64 0]) 2 16 Try.underlying58 HI.out hz0 hz1 hz2 (by kernel_rfl) rfl hown _ 1 [.int .i64 x.node, .int .i64 x.boot] rfl (src_lit Try.underlying58 [.int .i64 x.node, .int .i64 x.boot] _ rfl rfl (by simp [Value.oneCell']) _ (by simp)) (by have := HK.out; simp only [maxLen]; omega) (by have := HK.out; omega) ?_; intro v' w' ho f hown')
            go_roundw
            case rel => exact LAt.next HK.out (by omega) HN.out HX.out (by omega) (Acc.push ha1 ha2 HROWS.out (rMem.keep (Kept.ofBelow (((Below.refl _ _).alloc (Nat.le_refl _) _).alloc (by simp) _)) HREP.out) hbw.size hv0 rfl (by have h := HK.out; exact ho) f hown') _ (by omega)
            case measure => simp [intOf]; omega

theorem info_sn : (Try.prog.info? 139).map (fun i => (i.zero, i.size, i.bytes)) = some (some (.agg #[.int .i64 0, .int .i64 0, .complex .f64 0 0, .int .i64 0, .int .i64 0, .string ⟨#[]⟩, .bool false]), 7, 72) := by kernel_rfl

set_option maxRecDepth 100000 in
set_option maxHeartbeats 4000000 in
theorem lst_sn (bv : Value) (l : List UInt8) (at_ fb : Nat) (w : World) (hR : Rd w bv l) (ha : at_ ≤ 9223372036854775000) (hl : l.length ≤ 9223372036854000000) (hF : w.cell? ⟨fb, 0, none⟩ = some (.func (.func 78) #[] #[])) :
    Calls Try.prog 94 #[bv, .int .i64 at_, .pointer (some ⟨fb, 0, none⟩)] w (Got (rep.list rSn) packV (.slice none 0 0) (getL getSn l at_) w) := by
  have GI := get.int_any bv l at_ w hR ha (by omega)
  have HR := Lib.hid hR
  have hfb : fb < w.heap.size := World.block_lt_of_cell? _ _ hF
  have HF := Lib.hid hF
  clear hF
  obtain ⟨j0, hi, hz0, hz1, hz2⟩ := info_parts info_sn
  have HI := Lib.hid hi
  clear hi
  have hst : ∀ (x y : Nat) (w : World) (a : Addr) (q : Mode), (store a (.complex .f64 x y) q).run Try.prog w = stored Try.prog w a (.complex .f64 x y) q := fun x y w a q => run_store Try.prog w a _ q rfl
  cases hr : getI l at_ with
  | none =>
    have HA : Hid (getL getSn l at_ = none) := Lib.hid (by simp [getL, hr])
    rw [hr] at GI
    clear hr
    go_enter Try.func94, Try.ntmps94
    go_wp2_with fail
    refine GI.mono ?_
    rintro r w' ⟨rfl, rfl⟩
    simp only [vI]
    go_wp2_with fail
    go_ret3
    exact Got.none HA.out (Below.refl _ _)
  | some q =>
    obtain ⟨c, p0⟩ := q
    have hb := lawI l at_ c p0 hr
    obtain ⟨_, hb1, _, hb3, hb4⟩ := hb
    rw [hr] at GI
    by_cases hc : c < 0 ∨ 4096 < c
    · have HA : Hid (getL getSn l at_ = none) := Lib.hid (by simp only [getL, hr, Option.bind_some]; rw [if_pos hc])
      clear hr
      by_cases hc1 : c < 0
      · clear hc
        go_enter Try.func94, Try.ntmps94
        go_wp2_with fail
        refine GI.mono ?_
        rintro r w' ⟨rfl, rfl⟩
        simp only [vI]
        go_wp2_with fail
        go_ret3
        exact Got.none HA.out (Below.refl _ _)
      · have hc2 : 4096 < c := by omega
        clear hc
        go_enter Try.func94, Try.ntmps94
        go_wp2_with fail
        refine GI.mono ?_
        rintro r w' ⟨rfl, rfl⟩
        simp only [vI]
        go_wp2_with fail
        go_ret3
        exact Got.none HA.out (Below.refl _ _)
    · have HA : Hid (getL getSn l at_ = getN getSn l c.toNat p0) := Lib.hid (by simp only [getL, hr, Option.bind_some]; rw [if_neg hc])
      clear hr
      obtain ⟨c, rfl⟩ : ∃ m : Nat, c = m := ⟨c.toNat, by omega⟩
      have hc3 : c ≤ 4096 := by omega
      clear hc hb3 hb4
      go_enter Try.func94, Try.ntmps94
      go_wp2_with fail
      refine GI.mono ?_
      rintro r w' ⟨rfl, rfl⟩
      simp only [vI]
      go_wp2_with fail
      go_loopw [9, 11, 33] (fun nx v i wr => LAt rSn getSn l c p0 w nx v i wr) (fun _ _ i _ => c - (intOf i).toNat)
      case atStart => exact LAt.start rSn getSn l c p0 (by omega) w
      case round =>
        obtain ⟨k, m, p, xs, rfl, rfl, hk, hm, hp, acc, hN⟩ := hrel
        have HK := Lib.hid hk
        have HN := Lib.hid hN
        have hbw := acc.1
        clear hk hN
        cases m with
        | zero =>
          have hend : ¬ k < c := by omega
          go_wp2_with fail
          go_ret3
          obtain ⟨e1, e2⟩ := acc.list
          exact Got.some (x := xs) (nx := p) (by rw [HA.out, Int.toNat_natCast, HN.out]; simp [getN]) e1 e2 rfl
        | succ m =>
          have hgo : k < c := by omega
          have hF' : wr.cell? ⟨fb, 0, none⟩ = some (.func (.func 78) #[] #[]) := by rw [hbw.cell hfb]; exact HF.out
          have hR' := HR.out.below hbw (Nat.le_refl _)
          have GG := mget.getSn_any bv l p _ hR' hp hl
          cases hr : getSn l p with
          | none =>
            have HB : Hid (getL getSn l at_ = none) := Lib.hid (by rw [HA.out, Int.toNat_natCast, HN.out, getN_none hr]; rfl)
            rw [hr] at GG
            clear hr
            go_wp2_with fail
            refine GG.mono ?_
            rintro r w1 ⟨hw1, rfl⟩
            simp only [packA, zSn]
            go_wp2_with fail
            go_ret3
            exact Got.none HB.out ((hbw.trans (hw1.mono hbw.size)).alloc (Nat.le_trans hbw.size hw1.size) _)
          | some y =>
            obtain ⟨x, q⟩ := y
            have hq := (lawSn l p x q hr).2.1
            have HX := Lib.hid hr
            rw [hr] at GG
            clear hr
            go_wp2_with fail
            refine GG.mono ?_
            rintro r w1 ⟨hw1, cs, hrep, rfl⟩
            have HREP := Lib.hid hrep
            obtain rfl : cs = cSn x := hrep
            simp only [packA, cSn]
            have accA := acc.quiet hw1
            have hlt1 := hw1.size
            have acc1 := accA.quiet ((Below.refl _ _).alloc (Nat.le_refl _) (.cells #[.int .i64 x.sess, .int .i64 x.num, .complex .f64 (flt.F x.ver.1) (flt.F x.ver.2), .int .i64 x.kind, .int .i64 x.code, .string ⟨x.res.toArray⟩, .bool x.has] 139))
            have acc2 := acc1.quiet ((Below.refl _ _).alloc (Nat.le_refl _) (.cells #[.int .i64 x.sess, .int .i64 x.num, .complex .f64 (flt.F x.ver.1) (flt.F x.ver.2), .int .i64 x.kind, .int .i64 x.code, .string ⟨x.res.toArray⟩, .bool x.has] 139))
            obtain ⟨rows0, hrows0, hown0⟩ := acc.2.2
            have hv0 := hown0.lt
            obtain ⟨ha1, ha2, rows, hrows, hown⟩ := acc2
            have HROWS := Lib.hid hrows
            clear hrows hrows0 hown0
            go_wp2_with (at_builtin; refine wpList_append rfl _ _ _ _ rfl 139 j0 (.agg #[.int .i64 0, .int .i64 0, .complex .f64 0 0, .int .i64 0, .int .i64 0, .string ⟨#[]⟩, .bool false]) 7 72 Try.underlying60 HI.out hz0 hz1 hz2 (by kernel_rfl) rfl hown _ 1 [.int .i64 x.sess, .int .i64 x.num, .complex .f64 (flt.F x.ver.1) (flt.F x.ver.2), .int .i64 x.kind, .int .i64 x.code, .string ⟨x.res.toArray⟩, .bool x.has] rfl (src_lit Try.underlying60 [.int .i64 x.sess, .int .i64 x.num, .complex .f64 (flt.F x.ver.1) (flt.F x.ver.2), .int .i64 x.kind, .int .i64 x.code, .string ⟨x.res.toArray⟩, .bool x.has] _ rfl rfl (by simp [Value.oneCell']) _ (by simp)) (by have := HK.out; simp only [maxLen]; omega) (by have := HK.out; omega) ?_; intro v' w' ho f hown')
            go_roundw
            case rel => exact LAt.next HK.out (by omega) HN.out HX.out (by omega) (Acc.push ha1 ha2 HROWS.out (rSn.keep (Kept.ofBelow (((Below.refl _ _).alloc (Nat.le_refl _) _).alloc (by simp) _)) HREP.out) hbw.size hv0 rfl (by have h := HK.out; exact ho) f hown') _ (by omega)
            case measure => simp [intOf]; omega

theorem info_ent : (Try.prog.info? 48).map (fun i => (i.zero, i.size, i.bytes)) = some (some (.agg #[.complex .f64 0 0, .int .i64 0, .string ⟨#[]⟩, .string ⟨#[]⟩, .bool false, .bool false, .int .i64 0, .int .i64 0, .int .i64 0, .string ⟨#[]⟩, .bool false]), 11, 112) := by kernel_rfl

set_option maxRecDepth 100000 in
set_option maxHeartbeats 4000000 in
theorem lst_ent (bv : Value) (l : List UInt8) (at_ fb : Nat) (w : World) (hR : Rd w bv l) (ha : at_ ≤ 9223372036854775000) (hl : l.length ≤ 9223372036854000000) (hF : w.cell? ⟨fb, 0, none⟩ = some (.func (.func 31) #[] #[])) :
    Calls Try.prog 89 #[bv, .int .i64 at_, .pointer (some ⟨fb, 0, none⟩)] w (Got (rep.list rE) packV (.slice none 0 0) (getL getE l at_) w) := by
  have GI := get.int_any bv l at_ w hR ha (by omega)
  have HR := Lib.hid hR
  have hfb : fb < w.heap.size := World.block_lt_of_cell? _ _ hF
  have HF := Lib.hid hF
  clear hF
  obtain ⟨j0, hi, hz0, hz1, hz2⟩ := info_parts info_ent
  have HI := Lib.hid hi
  clear hi
  have hst : ∀ (x y : Nat) (w : World) (a : Addr) (q : Mode), (store a (.complex .f64 x y) q).run Try.prog w = stored Try.prog w a (.complex .f64 x y) q := fun x y w a q => run_store Try.prog w a _ q rfl
  cases hr : getI l at_ with
  | none =>
    have HA : Hid (getL getE l at_ = none) := Lib.hid (by simp [getL, hr])
    rw [hr] at GI
    clear hr
    go_enter Try.func89, Try.ntmps89
    go_wp2_with fail
    refine GI.mono ?_
    rintro r w' ⟨rfl, rfl⟩
    simp only [vI]
    go_wp2_with fail
    go_ret3
    exact Got.none HA.out (Below.refl _ _)
  | some q =>
    obtain ⟨c, p0⟩ := q
    have hb := lawI l at_ c p0 hr
    obtain ⟨_, hb1, _, hb3, hb4⟩ := hb
    rw [hr] at GI
    by_cases hc : c < 0 ∨ 4096 < c
    · have HA : Hid (getL getE l at_ = none) := Lib.hid (by simp only [getL, hr, Option.bind_some]; rw [if_pos hc])
      clear hr
      by_cases hc1 : c < 0
      · clear hc
        go_enter Try.func89, Try.ntmps89
        go_wp2_with fail
        refine GI.mono ?_
        rintro r w' ⟨rfl, rfl⟩
        simp only [vI]
        go_wp2_with fail
        go_ret3
        exact Got.none HA.out (Below.refl _ _)
      · have hc2 : 4096 < c := by omega
        clear hc
        go_enter Try.func89, Try.ntmps89
        go_wp2_with fail
        refine GI.mono ?_
        rintro r w' ⟨rfl, rfl⟩
        simp only [vI]
        go_wp2_with fail
        go_ret3
        exact Got.none HA.out (Below.refl _ _)
    · have HA : Hid (getL getE l at_ = getN getE l c.toNat p0) := Lib.hid (by simp only [getL, hr, Option.bind_some]; rw [if_neg hc])
      clear hr
      obtain ⟨c, rfl⟩ : ∃ m : Nat, c = m := ⟨c.toNat, by omega⟩
      have hc3 : c ≤ 4096 := by omega
      clear hc hb3 hb4
      go_enter Try.func89, Try.ntmps89
      go_wp2_with fail
      refine GI.mono ?_
      rintro r w' ⟨rfl, rfl⟩
      simp only [vI]
      go_wp2_with fail
      go_loopw [9, 11, 33] (fun nx v i wr => LAt rE getE l c p0 w nx v i wr) (fun _ _ i _ => c - (intOf i).toNat)
      case atStart => exact LAt.start rE getE l c p0 (by omega) w
      case round =>
        obtain ⟨k, m, p, xs, rfl, rfl, hk, hm, hp, acc, hN⟩ := hrel
        have HK := Lib.hid hk
        have HN := Lib.hid hN
        have hbw := acc.1
        clear hk hN
        cases m with
        | zero =>
          have hend : ¬ k < c := by omega
          go_wp2_with fail
          go_ret3
          obtain ⟨e1, e2⟩ := acc.list
          exact Got.some (x := xs) (nx := p) (by rw [HA.out, Int.toNat_natCast, HN.out]; simp [getN]) e1 e2 rfl
        | succ m =>
          have hgo : k < c := by omega
          have hF' : wr.cell? ⟨fb, 0, none⟩ = some (.func (.func 31) #[] #[]) := by rw [hbw.cell hfb]; exact HF.out
          have hR' := HR.out.below hbw (Nat.le_refl _)
          have GG := entG_any bv l p _ hR' hp hl
          cases hr : getE l p with
          | none =>
            have HB : Hid (getL getE l at_ = none) := Lib.hid (by rw [HA.out, Int.toNat_natCast, HN.out, getN_none hr]; rfl)
            rw [hr] at GG
            clear hr
            go_wp2_with fail
            refine GG.mono ?_
            rintro r w1 ⟨hw1, rfl⟩
            simp only [packA, zE]
            go_wp2_with fail
            go_ret3
            exact Got.none HB.out ((hbw.trans (hw1.mono hbw.size)).alloc (Nat.le_trans hbw.size hw1.size) _)
          | some y =>
            obtain ⟨x, q⟩ := y
            have hq := (lawE l p x q hr).2.1
            have HX := Lib.hid hr
            rw [hr] at GG
            clear hr
            go_wp2_with fail
            refine GG.mono ?_
            rintro r w1 ⟨hw1, cs, hrep, rfl⟩
            have HREP := Lib.hid hrep
            obtain rfl : cs = cE x := hrep
            simp only [packA, cE]
            have accA := acc.quiet hw1
            have hlt1 := hw1.size
            have acc1 := accA.quiet ((Below.refl _ _).alloc (Nat.le_refl _) (.cells #[.complex .f64 (flt.F x.ep) (flt.F x.no), .int .i64 x.kind, .string ⟨x.key.toArray⟩, .string ⟨x.val.toArray⟩, .bool x.write, .bool x.del, .int .i64 x.sess, .int .i64 x.num, .int .i64 x.code, .string ⟨x.res.toArray⟩, .bool x.has] 48))
            have acc2 := acc1.quiet ((Below.refl _ _).alloc (Nat.le_refl _) (.cells #[.complex .f64 (flt.F x.ep) (flt.F x.no), .int .i64 x.kind, .string ⟨x.key.toArray⟩, .string ⟨x.val.toArray⟩, .bool x.write, .bool x.del, .int .i64 x.sess, .int .i64 x.num, .int .i64 x.code, .string ⟨x.res.toArray⟩, .bool x.has] 48))
            obtain ⟨rows0, hrows0, hown0⟩ := acc.2.2
            have hv0 := hown0.lt
            obtain ⟨ha1, ha2, rows, hrows, hown⟩ := acc2
            have HROWS := Lib.hid hrows
            clear hrows hrows0 hown0
            go_wp2_with (at_builtin; refine wpList_append rfl _ _ _ _ rfl 48 j0 (.agg #[.complex .f64 0 0, .int .i64 0, .string ⟨#[]⟩, .string ⟨#[]⟩, .bool false, .bool false, .int .i64 0, .int .i64 0, .int .i64 0, .string ⟨#[]⟩, .bool false]) 11 112 Try.underlying57 HI.out hz0 hz1 hz2 (by kernel_rfl) rfl hown _ 1 [.complex .f64 (flt.F x.ep) (flt.F x.no), .int .i64 x.kind, .string ⟨x.key.toArray⟩, .string ⟨x.val.toArray⟩, .bool x.write, .bool x.del, .int .i64 x.sess, .int .i64 x.num, .int .i64 x.code, .string ⟨x.res.toArray⟩, .bool x.has] rfl (src_lit Try.underlying57 [.complex .f64 (flt.F x.ep) (flt.F x.no), .int .i64 x.kind, .string ⟨x.key.toArray⟩, .string ⟨x.val.toArray⟩, .bool x.write, .bool x.del, .int .i64 x.sess, .int .i64 x.num, .int .i64 x.code, .string ⟨x.res.toArray⟩, .bool x.has] _ rfl rfl (by simp [Value.oneCell']) _ (by simp)) (by have := HK.out; simp only [maxLen]; omega) (by have := HK.out; omega) ?_; intro v' w' ho f hown')
            go_roundw
            case rel => exact LAt.next HK.out (by omega) HN.out HX.out (by omega) (Acc.push ha1 ha2 HROWS.out (rE.keep (Kept.ofBelow (((Below.refl _ _).alloc (Nat.le_refl _) _).alloc (by simp) _)) HREP.out) hbw.size hv0 rfl (by have h := HK.out; exact ho) f hown') _ (by omega)
            case measure => simp [intOf]; omega

set_option maxRecDepth 100000 in
theorem lofMem_any (w : World) : Calls Try.prog 66 #[.func (.func 67) #[] #[]] w fun e w' =>
    e = .returned (.func (.func 90) #[] #[.pointer (some ⟨w.heap.size, 0, none⟩)]) ∧ w' = w.alloc (.cells #[.func (.func 67) #[] #[]] 120) := by
  go_enter Try.func66, Try.ntmps66
  go_wp2_with fail
  go_ret
  exact ⟨rfl, rfl⟩

set_option maxRecDepth 100000 in
theorem lofSn_any (w : World) : Calls Try.prog 77 #[.func (.func 78) #[] #[]] w fun e w' =>
    e = .returned (.func (.func 94) #[] #[.pointer (some ⟨w.heap.size, 0, none⟩)]) ∧ w' = w.alloc (.cells #[.func (.func 78) #[] #[]] 140) := by
  go_enter Try.func77, Try.ntmps77
  go_wp2_with fail
  go_ret
  exact ⟨rfl, rfl⟩

set_option maxRecDepth 100000 in
theorem lofE_any (w : World) : Calls Try.prog 64 #[.func (.func 31) #[] #[]] w fun e w' =>
    e = .returned (.func (.func 89) #[] #[.pointer (some ⟨w.heap.size, 0, none⟩)]) ∧ w' = w.alloc (.cells #[.func (.func 31) #[] #[]] 50) := by
  go_enter Try.func64, Try.ntmps64
  go_wp2_with fail
  go_ret
  exact ⟨rfl, rfl⟩

set_option maxRecDepth 100000 in
theorem lofVw_any (w : World) : Calls Try.prog 69 #[.func (.func 70) #[] #[]] w fun e w' =>
    e = .returned (.func (.func 92) #[] #[.pointer (some ⟨w.heap.size, 0, none⟩)]) ∧ w' = w.alloc (.cells #[.func (.func 70) #[] #[]] 126) := by
  go_enter Try.func69, Try.ntmps69
  go_wp2_with fail
  go_ret
  exact ⟨rfl, rfl⟩

end Go.Proofs.Ytolgbnpginifkaa.mlist
