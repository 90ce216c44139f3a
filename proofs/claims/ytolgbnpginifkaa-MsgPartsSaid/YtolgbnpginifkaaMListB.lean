/- The contract of the closure of msg.listOf at View. -/
import Derived.Test.YtolgbnpginifkaaMGetB
namespace Go.Proofs.Ytolgbnpginifkaa.mlist
open Go.ChangeShapes Go.WideShapes Go.ChangeAt Go.RowKit codec st own get blk rep ent msgd entget minto
open into (adv fI fT fB fV)
set_option linter.unusedVariables false

open mdone mget
theorem info_vw : (Try.prog.info? 125).map (fun i => (i.zero, i.size, i.bytes)) = some (some (.agg #[.int .i64 0, .int .i64 0, .int .i64 0, .int .i64 0, .slice none 0 0]), 5, 56) := by kernel_rfl

set_option maxRecDepth 100000 in
set_option maxHeartbeats 4000000 in
theorem lst_vw (bv : Value) (l : List UInt8) (at_ fb : Nat) (w : World) (hR : Rd w bv l) (ha : at_ ≤ 9223372036854775000) (hl : l.length ≤ 9223372036854000000) (hF : w.cell? ⟨fb, 0, none⟩ = some (.func (.func 70) #[] #[])) :
    Calls Try.prog 92 #[bv, .int .i64 at_, .pointer (some ⟨fb, 0, none⟩)] w (Got (rep.list rVw) packV (.slice none 0 0) (getL getVw l at_) w) := by
  have GI := get.int_any bv l at_ w hR ha (by omega)
  have HR := Lib.hid hR
  have hfb : fb < w.heap.size := World.block_lt_of_cell? _ _ hF
  have HF := Lib.hid hF
  clear hF
  obtain ⟨j0, hi, hz0, hz1, hz2⟩ := info_parts info_vw
  have HI := Lib.hid hi
  clear hi
  cases hr : getI l at_ with
  | none =>
    have HA : Hid (getL getVw l at_ = none) := Lib.hid (by simp [getL, hr])
    rw [hr] at GI
    clear hr
    go_enter Try.func92, Try.ntmps92
    go_wp2_with fail
    refine GI.mono ?_
    rintro r w' ⟨rfl, rfl⟩
    simp only [vI]
    go_wp2_with fail
    go_ret3
    exact Got.none HA.out (Below.refl _ _)
  | some q =>
    obtain ⟨c, p0⟩ := q
    have hb := lawI l at_ c p0 hr
    obtain ⟨_, hb1, _, hb3, hb4⟩ := hb
    rw [hr] at GI
    by_cases hc : c < 0 ∨ 4096 < c
    · have HA : Hid (getL getVw l at_ = none) := Lib.hid (by simp only [getL, hr, Option.bind_some]; rw [if_pos hc])
      clear hr
      by_cases hc1 : c < 0
      · clear hc
        go_enter Try.func92, Try.ntmps92
        go_wp2_with fail
        refine GI.mono ?_
        rintro r w' ⟨rfl, rfl⟩
        simp only [vI]
        go_wp2_with fail
        go_ret3
        exact Got.none HA.out (Below.refl _ _)
      · have hc2 : 4096 < c := by omega
        clear hc
        go_enter Try.func92, Try.ntmps92
        go_wp2_with fail
        refine GI.mono ?_
        rintro r w' ⟨rfl, rfl⟩
        simp only [vI]
        go_wp2_with fail
        go_ret3
        exact Got.none HA.out (Below.refl _ _)
    · have HA : Hid (getL getVw l at_ = getN getVw l c.toNat p0) := Lib.hid (by simp only [getL, hr, Option.bind_some]; rw [if_neg hc])
      clear hr
      obtain ⟨c, rfl⟩ : ∃ m : Nat, c = m := ⟨c.toNat, by omega⟩
      have hc3 : c ≤ 4096 := by omega
      clear hc hb3 hb4
      go_enter Try.func92, Try.ntmps92
      go_wp2_with fail
      refine GI.mono ?_
      rintro r w' ⟨rfl, rfl⟩
      simp only [vI]
      go_wp2_with fail
      go_loopw [9, 11, 33] (fun nx v i wr => LAt rVw getVw l c p0 w nx v i wr) (fun _ _ i _ => c - (intOf i).toNat)
      case atStart => exact LAt.start rVw getVw l c p0 (by omega) w
      case round =>
        obtain ⟨k, m, p, xs, rfl, rfl, hk, hm, hp, acc, hN⟩ := hrel
        have HK := Lib.hid hk
        have HN := Lib.hid hN
        have hbw := acc.1
        clear hk hN
        cases m with
        | zero =>
          have hend : ¬ k < c := by omega
          go_wp2_with fail
          go_ret3
          obtain ⟨e1, e2⟩ := acc.list
          exact Got.some (x := xs) (nx := p) (by rw [HA.out, Int.toNat_natCast, HN.out]; simp [getN]) e1 e2 rfl
        | succ m =>
          have hgo : k < c := by omega
          have hF' : wr.cell? ⟨fb, 0, none⟩ = some (.func (.func 70) #[] #[]) := by rw [hbw.cell hfb]; exact HF.out
          have hR' := HR.out.below hbw (Nat.le_refl _)
          have GG := mget.getVw_any bv l p _ hR' hp hl
          cases hr : getVw l p with
          | none =>
            have HB : Hid (getL getVw l at_ = none) := Lib.hid (by rw [HA.out, Int.toNat_natCast, HN.out, getN_none hr]; rfl)
            rw [hr] at GG
            clear hr
            go_wp2_with fail
            refine GG.mono ?_
            rintro r w1 ⟨hw1, rfl⟩
            simp only [packA, zVw]
            go_wp2_with fail
            go_ret3
            exact Got.none HB.out ((hbw.trans (hw1.mono hbw.size)).alloc (Nat.le_trans hbw.size hw1.size) _)
          | some y =>
            obtain ⟨x, q⟩ := y
            have hq := (lawVw l p x q hr).2.1
            have HX := Lib.hid hr
            rw [hr] at GG
            clear hr
            go_wp2_with fail
            refine GG.mono ?_
            rintro r w1 ⟨hw1, cs, hrep, rfl⟩
            have HREP := Lib.hid hrep
            obtain ⟨u, rfl, hlist⟩ := hrep
            obtain ⟨u2, rows2, e2, hrow2, hl2, a2, cap2, rfl, hd2⟩ := hlist
            simp only [List.cons.injEq, and_true] at e2
            subst e2
            simp only [packA]
            have accA := acc.quiet hw1
            have hlt1 := hw1.size
            have acc1 := accA.quiet ((Below.refl _ _).alloc (Nat.le_refl _) (.cells #[.int .i64 x.shard, .int .i64 x.epoch, .int .i64 x.gen, .int .i64 x.phase, .slice a2 x.chain.length cap2] 125))
            have acc2 := acc1.quiet ((Below.refl _ _).alloc (Nat.le_refl _) (.cells #[.int .i64 x.shard, .int .i64 x.epoch, .int .i64 x.gen, .int .i64 x.phase, .slice a2 x.chain.length cap2] 125))
            obtain ⟨rows0, hrows0, hown0⟩ := acc.2.2
            have hv0 := hown0.lt
            obtain ⟨ha1, ha2, rows, hrows, hown⟩ := acc2
            have HROWS := Lib.hid hrows
            clear hrows hrows0 hown0
            go_wp2_with (at_builtin; refine wpList_append rfl _ _ _ _ rfl 125 j0 (.agg #[.int .i64 0, .int .i64 0, .int .i64 0, .int .i64 0, .slice none 0 0]) 5 56 Try.underlying59 HI.out hz0 hz1 hz2 (by kernel_rfl) rfl hown _ 1 [.int .i64 x.shard, .int .i64 x.epoch, .int .i64 x.gen, .int .i64 x.phase, .slice a2 x.chain.length cap2] rfl (src_lit Try.underlying59 [.int .i64 x.shard, .int .i64 x.epoch, .int .i64 x.gen, .int .i64 x.phase, .slice a2 x.chain.length cap2] _ rfl rfl (by simp [Value.oneCell']) _ (by simp)) (by have := HK.out; simp only [maxLen]; omega) (by have := HK.out; omega) ?_; intro v' w' ho f hown')
            go_roundw
            case rel => exact LAt.next HK.out (by omega) HN.out HX.out (by omega) (Acc.push ha1 ha2 HROWS.out (rVw.keep (Kept.ofBelow (((Below.refl _ _).alloc (Nat.le_refl _) _).alloc (by simp) _)) HREP.out) hbw.size hv0 rfl (by have h := HK.out; exact ho) f hown') _ (by omega)
            case measure => simp [intOf]; omega

end Go.Proofs.Ytolgbnpginifkaa.mlist
