/- The contracts of lockgateref03's readers. -/
import Derived.Test.YtolgbnpginifkaaGetV
namespace Go.Proofs.Ytolgbnpginifkaa.rget
open Go.ChangeShapes Go.WideShapes Go.ChangeAt Go.RowKit codec st groups get
set_option linter.unusedVariables false

/-- The first loop's relation: so many bytes from the place on are at least 128. -/
def EndAt (l : List UInt8) (at_ : Nat) (e : Value) : Prop :=
  ∃ j : Nat, e = .int .i64 ((at_ + j : Nat) : Int) ∧ j ≤ 10 ∧ high ((l.drop at_).take j) ∧ (0 < j → at_ + j ≤ l.length)

theorem EndAt.next {l : List UInt8} {at_ j : Nat} {c : UInt8} (hj : j < 10) (hh : high ((l.drop at_).take j)) (hc : l[at_ + j]? = some c) (h128 : 128 ≤ c.toNat) (z : Int) (hz : z = ((at_ + (j + 1) : Nat) : Int)) : EndAt l at_ (.int .i64 z) := by
  subst hz
  have hlt : at_ + j < l.length := (List.getElem?_eq_some_iff.1 hc).1
  refine ⟨j + 1, rfl, by omega, ?_, fun _ => by omega⟩
  rw [List.take_add_one, List.getElem?_drop, hc]
  intro x hx
  simp only [Option.toList_some, List.mem_append, List.mem_singleton] at hx
  rcases hx with hx | rfl
  · exact hh x hx
  · exact h128

/-- The bytes end, or ten are not enough. -/
theorem none_of_end {l : List UInt8} {at_ j : Nat} (hh : high ((l.drop at_).take j)) (h : l.length ≤ at_ + j) : getI l at_ = none := by
  unfold getI
  have e : (l.drop at_).take j = l.drop at_ := List.take_of_length_le (by rw [List.length_drop]; omega)
  rw [e] at hh
  rw [rd_runs_out _ 0 hh]
  rfl
theorem none_of_ten {l : List UInt8} {at_ : Nat} (hh : high ((l.drop at_).take 10)) (h : at_ + 10 ≤ l.length) : getI l at_ = none := by
  unfold getI
  have e := rd_too_long ((l.drop at_).take 10) 0 ((l.drop at_).drop 10) hh (by rw [List.length_take, List.length_drop]; omega) (by rw [List.length_take, List.length_drop]; omega)
  rw [List.take_append_drop] at e
  rw [e]
  rfl

/-- The bytes that end the number: what they say. -/
theorem getI_ends {l : List UInt8} {at_ j : Nat} {c : UInt8} (hj : j ≤ 9) (hh : high ((l.drop at_).take j)) (hc : l[at_ + j]? = some c) (h128 : c.toNat < 128) :
    getI l at_ = if (0 < j ∧ c.toNat = 0) ∨ 18446744073709551616 ≤ hv ((l.drop at_).take (j + 1)) then none else some (unzig (hv ((l.drop at_).take (j + 1))), at_ + (j + 1)) := by
  have hlt : at_ + j < l.length := (List.getElem?_eq_some_iff.1 hc).1
  have e1 : (l.drop at_).take (j + 1) = (l.drop at_).take j ++ [c] := by
    rw [List.take_add_one, List.getElem?_drop, hc]; rfl
  have hpl : ((l.drop at_).take j).length = j := by rw [List.length_take, List.length_drop]; omega
  have e2 : l.drop at_ = (l.drop at_).take j ++ c :: l.drop (at_ + j + 1) := by
    have := List.take_append_drop j (l.drop at_)
    rw [List.drop_drop, drop_cons hc] at this
    exact this.symm
  have e3 := rd_ends ((l.drop at_).take j) 0 c (l.drop (at_ + j + 1)) hh h128 (by omega)
  rw [← e2, hpl, ← e1] at e3
  unfold getI
  rw [e3]
  simp only [Nat.zero_add]
  show Option.map _ (if (0 < j ∧ c.toNat = 0) ∨ 18446744073709551616 ≤ hv _ then _ else _) = _
  split <;> rfl

theorem hv_drop {q : List UInt8} {s : Nat} {c : UInt8} (h : q[s]? = some c) : hv (q.drop s) = c.toNat % 128 + 128 * hv (q.drop (s + 1)) := by
  rw [drop_cons h, hv]

theorem hv_grows (q : List UInt8) : ∀ s : Nat, 128 ^ s * hv (q.drop s) ≤ hv q
  | 0 => by simp
  | s + 1 => by
    have ih := hv_grows q s
    cases h : q[s]? with
    | none =>
      have := List.getElem?_eq_none_iff.1 h
      rw [List.drop_eq_nil_of_le (by omega)]
      simp [hv]
    | some c =>
      rw [hv_drop h] at ih
      rw [Nat.pow_succ, Nat.mul_assoc]
      exact Nat.le_trans (Nat.mul_le_mul_left _ (by omega)) ih

/-- The second loop's relation: the value of the bytes behind i. -/
def ValAt (l : List UInt8) (at_ j : Nat) (m i : Value) : Prop :=
  ∃ (s : Nat) (zi : Int), m = .int .u64 (hv (((l.drop at_).take (j + 1)).drop s) : Nat) ∧ i = .int .i64 zi ∧ zi = (at_ : Int) + s - 1 ∧ s ≤ j + 1 ∧ hv (((l.drop at_).take (j + 1)).drop s) < 18446744073709551616

set_option maxRecDepth 100000 in
theorem int_any (v : Value) (l : List UInt8) (at_ : Nat) (w : World) (hR : Rd w v l) (ha : at_ ≤ 9223372036854775000) (hl : l.length ≤ 9223372036854775000) :
    Calls Try.prog 25 #[v, .int .i64 at_] w fun e w' => e = .returned (vI (getI l at_)) ∧ w = w' := by
  have HR := Lib.hid hR
  obtain ⟨a1, c1, rfl, k1, m1, -⟩ := hR
  unfold maxLen at m1
  go_enter Try.func25, Try.ntmps25
  go_wp2
  go_loop [7] (fun e => EndAt l at_ e) (fun e => at_ + 10 - (intOf e).toNat)
  case atStart => exact ⟨0, rfl, by omega, fun x hx => by simp at hx, fun h => by omega⟩
  case round =>
    obtain ⟨j, rfl, hj, hh, hjl⟩ := hrel
    have HH := Lib.hid hh
    clear hh
    by_cases hlt : at_ + j < l.length
    · by_cases hj10 : j < 10
      · obtain ⟨c, hc⟩ : ∃ c, l[at_ + j]? = some c := ⟨_, List.getElem?_eq_getElem hlt⟩
        obtain ⟨a1', c1', e1, _, _, f1⟩ := HR.out
        simp only [Value.slice.injEq] at e1
        obtain ⟨rfl, _, rfl⟩ := e1
        obtain ⟨x, rfl, g⟩ := f1 _ c hc
        unfold B at g
        have F1 := Lib.hid f1
        have HC := Lib.hid hc
        clear hc f1
        have hc8 : c.toNat < 256 := c.toNat_lt
        by_cases h128 : 128 ≤ c.toNat
        · go_wp2
          go_round
          case rel => exact EndAt.next hj10 HH.out HC.out h128 _ (by omega)
          case measure => simp [intOf]; omega
        · go_wp2
          have hg := Lib.hid (getI_ends (by omega) HH.out HC.out (by omega))
          go_loop [8, 9] (fun m i => ValAt l at_ j m i) (fun _ i => (intOf i + 1 - at_).toNat)
          case atStart => exact ⟨j + 1, _, by rw [List.drop_eq_nil_of_le (by rw [List.length_take]; omega)]; rfl, rfl, by omega, by omega, by rw [List.drop_eq_nil_of_le (by rw [List.length_take]; omega)]; decide⟩
          case round =>
            obtain ⟨s, zi, rfl, rfl, hzi, hs, hm⟩ := hrel
            rcases s with _ | s
            · obtain rfl : zi = (at_ : Int) - 1 := by omega
              rw [List.drop_zero] at hm ⊢
              have HM := Lib.hid hm
              obtain ⟨m, hmq⟩ : ∃ m, m = hv ((l.drop at_).take (j + 1)) := ⟨_, rfl⟩
              rw [← hmq] at hm ⊢
              have HMQ := Lib.hid hmq
              clear hmq hzi hs
              by_cases hb : 0 < j ∧ c.toNat = 0
              · obtain ⟨hb1, hb2⟩ := hb
                have hq : ((c.toNat : Int) == 0) = true := by simp [hb2]
                have HB := Lib.hid hb2
                clear hb2
                go_wp2
                go_ret3
                exact ⟨by rw [hg.out, if_pos (.inl ⟨hb1, HB.out⟩)]; rfl, rfl⟩
              · have hgs : Hid (getI l at_ = some (unzig m, at_ + (j + 1))) := Lib.hid (by rw [hg.out, if_neg (fun h => h.elim hb (fun h => by have := HM.out; omega)), HMQ.out])
                by_cases hj0 : 0 < j
                · have hq : ((c.toNat : Int) == 0) = false := by simp; omega
                  clear hb
                  by_cases hm2 : m % 2 = 1
                  · have hq2 : ((m : Int) % 2 == 1) = true := by simp; omega
                    have hu : Hid (unzig m = -((m : Int) / 2) - 1) := Lib.hid (by unfold unzig; rw [if_pos hm2]; omega)
                    clear hm2
                    go_wp2
                    go_ret3
                    exact ⟨by rw [hgs.out, vI, hu.out]; rfl, rfl⟩
                  · have hq2 : ((m : Int) % 2 == 1) = false := by simp; omega
                    have hu : Hid (unzig m = (m : Int) / 2) := Lib.hid (by unfold unzig; rw [if_neg hm2]; omega)
                    clear hm2
                    go_wp2
                    go_ret3
                    exact ⟨by rw [hgs.out, vI, hu.out]; rfl, rfl⟩
                · clear hb
                  by_cases hm2 : m % 2 = 1
                  · have hq2 : ((m : Int) % 2 == 1) = true := by simp; omega
                    have hu : Hid (unzig m = -((m : Int) / 2) - 1) := Lib.hid (by unfold unzig; rw [if_pos hm2]; omega)
                    clear hm2
                    go_wp2
                    go_ret3
                    exact ⟨by rw [hgs.out, vI, hu.out]; rfl, rfl⟩
                  · have hq2 : ((m : Int) % 2 == 1) = false := by simp; omega
                    have hu : Hid (unzig m = (m : Int) / 2) := Lib.hid (by unfold unzig; rw [if_neg hm2]; omega)
                    clear hm2
                    go_wp2
                    go_ret3
                    exact ⟨by rw [hgs.out, vI, hu.out]; rfl, rfl⟩
            · obtain rfl : zi = ((at_ + s : Nat) : Int) := by omega
              have hlt2 : at_ + s < l.length := by omega
              obtain ⟨d, hd⟩ : ∃ d, l[at_ + s]? = some d := ⟨_, List.getElem?_eq_getElem hlt2⟩
              obtain ⟨y, ey, g2⟩ := F1.out _ d hd
              cases ey
              unfold B at g2
              have hd8 : d.toNat < 256 := d.toNat_lt
              have hds : ((l.drop at_).take (j + 1))[s]? = some d := by
                rw [List.getElem?_take, if_pos (by omega), List.getElem?_drop, hd]
              have hdrop := hv_drop hds
              have hgrow := hv_grows ((l.drop at_).take (j + 1)) (s + 1)
              have HDR := Lib.hid hdrop
              have HGR := Lib.hid hgrow
              obtain ⟨m, hmq⟩ : ∃ m, m = hv (((l.drop at_).take (j + 1)).drop (s + 1)) := ⟨_, rfl⟩
              rw [← hmq] at hm ⊢
              have HMQ := Lib.hid hmq
              clear hmq hd hds hdrop hgrow hzi
              by_cases hbig : 144115188075855871 < m
              · have hb2 : Hid (18446744073709551616 ≤ hv ((l.drop at_).take (j + 1))) := Lib.hid (by
                  have h := HGR.out
                  rw [← HMQ.out, Nat.pow_succ] at h
                  have hp : 1 ≤ 128 ^ s := Nat.le_trans Nat.one_le_two_pow (Nat.pow_le_pow_left (by decide) s)
                  have h2 := Nat.mul_le_mul_right (128 * m) hp
                  rw [Nat.one_mul, ← Nat.mul_assoc] at h2
                  omega)
                go_wp2
                go_ret3
                exact ⟨by rw [hg.out, if_pos (.inr hb2.out)]; rfl, rfl⟩
              · go_wp2
                go_round
                case rel => exact ⟨s, _, by rw [HDR.out, ← HMQ.out]; go_num, rfl, by omega, by omega, by rw [HDR.out, ← HMQ.out]; omega⟩
                case measure => simp [intOf]; omega
      · go_wp2
        go_ret3
        obtain rfl : j = 10 := by omega
        exact ⟨by rw [none_of_ten HH.out (by omega)]; rfl, rfl⟩
    · go_wp2
      go_ret3
      exact ⟨by rw [none_of_end HH.out (by omega)]; rfl, rfl⟩
set_option maxRecDepth 100000 in
theorem text_any (v : Value) (l : List UInt8) (at_ : Nat) (w : World) (hR : Rd w v l) (ha : at_ ≤ 9223372036854775000) (hl : l.length ≤ 9223372036854000000) :
    Calls Try.prog 26 #[v, .int .i64 at_] w fun e w' => e = .returned (vT (getT l at_)) ∧ w = w' := by
  have G := int_any v l at_ w hR ha (by omega)
  have HR := Lib.hid hR
  obtain ⟨a1, c1, rfl, k1, m1, -⟩ := hR
  unfold maxLen at m1
  cases hr : getI l at_ with
  | none =>
    have hg : Hid (getT l at_ = none) := Lib.hid (by unfold getT; rw [hr])
    rw [hr] at G
    clear hr
    go_enter Try.func26, Try.ntmps26
    go_wp2_with fail
    refine G.mono ?_
    rintro r w' ⟨rfl, rfl⟩
    simp only [vI]
    go_wp2_with fail
    go_ret3
    exact ⟨by rw [hg.out]; rfl, rfl⟩
  | some p =>
    obtain ⟨n, nx⟩ := p
    obtain ⟨b1, b2, b3, b4⟩ := getI_le hr
    by_cases hn : 0 ≤ n ∧ n ≤ 65536 ∧ nx + n.toNat ≤ l.length
    · have hg : Hid (getT l at_ = some ((l.drop nx).take n.toNat, nx + n.toNat)) := Lib.hid (by unfold getT; rw [hr]; simp only; rw [if_pos hn])
      rw [hr] at G
      clear hr
      obtain ⟨n1, n2, n3⟩ := hn
      obtain ⟨k, rfl⟩ : ∃ k : Nat, n = k := ⟨n.toNat, by omega⟩
      rw [Int.toNat_natCast] at n3 hg
      rcases Nat.eq_zero_or_pos k with hk | hk
      · have hcv : ∀ (aa : Option Addr) (cp : Nat), (convert 24 9 (.slice aa k cp)).run Try.prog w = .ok (.string ⟨#[]⟩) w := fun aa cp =>
          run_str w Try.underlying24 Try.underlying5 Try.underlying9 aa k cp [] (by simp [hk]) (fun i c hi => by simp at hi)
        have HK := Lib.hid hk
        clear hk
        go_enter Try.func26, Try.ntmps26
        go_wp2_with fail
        refine G.mono ?_
        rintro r w' ⟨rfl, rfl⟩
        simp only [vI]
        go_wp2_with fail
        all_goals
          go_ret3
          exact ⟨by rw [hg.out, vT, HK.out]; rfl, rfl⟩
      · obtain ⟨a1', c1', e1, _, _, f1⟩ := HR.out
        simp only [Value.slice.injEq] at e1
        obtain ⟨rfl, _, rfl⟩ := e1
        obtain ⟨x, rfl, _⟩ := f1 nx l[nx] (List.getElem?_eq_getElem (by omega))
        have hcv : ∀ (cp : Nat), (convert 24 9 (.slice (some (x.add nx)) k cp)).run Try.prog w = .ok (.string ⟨((l.drop nx).take k).toArray⟩) w := fun cp =>
          run_str w Try.underlying24 Try.underlying5 Try.underlying9 _ k cp ((l.drop nx).take k) (by rw [List.length_take, List.length_drop]; omega) (fun i c hi => by
            rw [List.getElem?_take] at hi
            split at hi
            · rw [List.getElem?_drop] at hi
              obtain ⟨y, hy, hcell⟩ := f1 _ c hi
              cases hy
              exact ⟨_, rfl, by rw [Addr.add_add]; exact hcell⟩
            · cases hi)
        have hne : ¬ c1 = nx := by omega
        clear f1
        go_enter Try.func26, Try.ntmps26
        go_wp2_with fail
        refine G.mono ?_
        rintro r w' ⟨rfl, rfl⟩
        simp only [vI]
        go_wp2_with fail
        go_ret3
        exact ⟨by rw [hg.out, vT]; rfl, rfl⟩
    · have hg : Hid (getT l at_ = none) := Lib.hid (by unfold getT; rw [hr]; simp only; rw [if_neg hn])
      rw [hr] at G
      clear hr
      by_cases n1 : n < 0
      · clear hn
        go_enter Try.func26, Try.ntmps26
        go_wp2_with fail
        refine G.mono ?_
        rintro r w' ⟨rfl, rfl⟩
        simp only [vI]
        go_wp2_with fail
        go_ret3
        exact ⟨by rw [hg.out]; rfl, rfl⟩
      · by_cases n2 : 65536 < n
        · clear hn
          go_enter Try.func26, Try.ntmps26
          go_wp2_with fail
          refine G.mono ?_
          rintro r w' ⟨rfl, rfl⟩
          simp only [vI]
          go_wp2_with fail
          go_ret3
          exact ⟨by rw [hg.out]; rfl, rfl⟩
        · have n3 : (l.length : Int) < nx + n := by omega
          clear hn
          go_enter Try.func26, Try.ntmps26
          go_wp2_with fail
          refine G.mono ?_
          rintro r w' ⟨rfl, rfl⟩
          simp only [vI]
          go_wp2_with fail
          go_ret3
          exact ⟨by rw [hg.out]; rfl, rfl⟩


end Go.Proofs.Ytolgbnpginifkaa.rget
