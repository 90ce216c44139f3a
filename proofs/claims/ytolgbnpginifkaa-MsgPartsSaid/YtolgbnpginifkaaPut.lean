/- The contracts of package wire's writers and of the document's. -/
import Derived.Test.YtolgbnpginifkaaRows
import Derived.Test.YtolgbnpginifkaaSt
import Derived.Test.YtolgbnpginifkaaCodec
import Derived.WalkKit
import Derived.ProofKit
import Derived.WalkLawsBesides
import Derived.Lib.Hide
import Derived.Outline
import Derived.Laws.BitsAllLaws
import Derived.Test.YtolgbnpginifkaaVerC
namespace Go.Proofs.Ytolgbnpginifkaa.put
open Go.ChangeShapes Go.WideShapes Go.ChangeAt Go.RowKit codec st own

/-- A call answers v0 and, behind it, bytes: l in all. -/
def PutsTo (w : World) (v0 : Value) (l : List UInt8) (e : Ending) (w' : World) : Prop := ∃ v, e = .returned v ∧ Puts w w' v0 v l

theorem info_u8 : (Try.prog.info? 5).map (fun i => (i.zero, i.size, i.bytes)) = some (some (.int .u8 0), 1, 1) := by kernel_rfl

theorem wrap_u64 (n : Int) : IntKind.u64.wrap n = n % 18446744073709551616 := by simp [IntKind.wrap, IntKind.bits, IntKind.signed]

theorem zig_neg {n : Int} (h1 : -9223372036854775808 ≤ n) (h : n < 0) : bits BinOp.xor IntKind.u64 IntKind.u64.max (IntKind.u64.wrap (IntKind.u64.wrap n * 2)) = (zig n : Int) := by
  have e : IntKind.u64.wrap (IntKind.u64.wrap n * 2) = 2 * n + 18446744073709551616 := by rw [wrap_u64, wrap_u64]; omega
  have em : IntKind.u64.max = 18446744073709551615 := by decide
  rw [e, em, u64_xor _ _ (by omega) (by omega) (by omega) (by omega)]
  obtain ⟨m, hm⟩ : ∃ m : Nat, 2 * n + 18446744073709551616 = m := ⟨(2 * n + 18446744073709551616).toNat, by omega⟩
  have hm2 : m < 2 ^ 64 := by omega
  have hx : (18446744073709551615 : Nat) ^^^ m = 18446744073709551615 - m := by
    rw [Nat.xor_comm]
    have k : BitVec.toNat (BitVec.ofNat 64 m ^^^ BitVec.allOnes 64) = BitVec.toNat (~~~ (BitVec.ofNat 64 m)) := by rw [BitVec.xor_allOnes]
    rw [BitVec.toNat_xor, BitVec.toNat_not, BitVec.toNat_ofNat, Nat.mod_eq_of_lt hm2, BitVec.toNat_allOnes] at k
    simpa using k
  rw [hm]
  have e1 : ((18446744073709551615 : Int)).toNat = 18446744073709551615 := rfl
  rw [e1, Int.toNat_natCast, hx]
  unfold zig
  rw [if_pos h]
  omega

/-- How a group is spelled on the way. -/
theorem low7 (k : Nat) (h : k < 18446744073709551616) : bits .and .u64 (k : Int) 127 = ((k % 128 : Nat) : Int) := by
  rw [u64_and _ _ (by omega) (by omega) (by omega) (by omega)]
  have : ((k : Int).toNat &&& (127 : Int).toNat) = k % 128 := nat_mask7 k
  rw [this]
theorem up7 (k : Nat) (h : k < 128) : bits .or .u8 (k : Int) 128 = ((k + 128 : Nat) : Int) := by
  rw [u8_or _ _ (by omega) (by omega) (by omega) (by omega)]
  have e : ((k : Int).toNat ||| (128 : Int).toNat) = 128 ||| k := by rw [Nat.or_comm]; rfl
  rw [e, nat_join 7 128 k (by decide) (by omega), Nat.add_comm]

def At (w : World) (v0 : Value) (n : Int) (l : List UInt8) (v m : Value) (wr : World) : Prop :=
  ∃ (p : List UInt8) (f k : Nat), m = .int .u64 k ∧ putI n = p ++ gr f k ∧ k < 128 ^ (f + 1) ∧ p.length + f ≤ 9 ∧ k < 18446744073709551616 ∧ Puts w wr v0 v (l ++ p)

theorem At.start {w : World} {v0 : Value} {l : List UInt8} {n : Int} (h : Has w v0 l) (h1 : -9223372036854775808 ≤ n) (h2 : n ≤ 9223372036854775807) (z : Int) (hz : z = (zig n : Int)) : At w v0 n l v0 (.int .u64 z) w := by
  subst hz
  have := zig_lt h1 h2
  refine ⟨[], 9, zig n, rfl, rfl, Nat.lt_of_lt_of_le this (by decide), by simp, this, ?_⟩
  rw [List.append_nil]
  exact Puts.refl h

/-- Behind a round: one group more. -/
theorem At.next {w wr w' : World} {v0 v v' : Value} {l : List UInt8} {n : Int} {p : List UInt8} {f k : Nat} (hput : putI n = p ++ gr f k) (hk : k < 128 ^ (f + 1)) (hf : p.length + f ≤ 9) (h64 : k < 18446744073709551616) (hp : Puts w wr v0 v (l ++ p))
    (hc : 127 < k) {o : Obj} (q : Puts (wr.alloc o) w' v v' ((l ++ p) ++ [UInt8.ofNat (k % 128 + 128)])) (z : Int) (hz : z = ((k / 128 : Nat) : Int)) : At w v0 n l v' (.int .u64 z) w' := by
  subst hz
  obtain ⟨f', rfl⟩ : ∃ f', f = f' + 1 := by
    cases f with
    | zero => simp at hk; omega
    | succ f => exact ⟨f, rfl⟩
  refine ⟨p ++ [UInt8.ofNat (k % 128 + 128)], f', k / 128, rfl, ?_, ?_, by simp; omega, by omega, ?_⟩
  · rw [hput, gr, if_neg (by omega), List.append_assoc]; rfl
  · rw [Nat.pow_succ] at hk; omega
  · rw [← List.append_assoc]; exact hp.thenAlloc q

theorem At.last {w wr w' : World} {v0 v v' : Value} {l : List UInt8} {n : Int} {p : List UInt8} {f k : Nat} (hput : putI n = p ++ gr f k) (hp : Puts w wr v0 v (l ++ p))
    (hc : k ≤ 127) {o : Obj} (q : Puts (wr.alloc o) w' v v' ((l ++ p) ++ [UInt8.ofNat k])) : Puts w w' v0 v' (l ++ putI n) := by
  have e : gr f k = [UInt8.ofNat k] := by
    cases f with
    | zero => rfl
    | succ f => rw [gr, if_pos hc]
  rw [hput, e, ← List.append_assoc]
  exact hp.thenAlloc q

theorem ofNat_int {n : Nat} (h : n < 256) : (n : Int) = ((UInt8.ofNat n).toNat : Int) := by rw [toNat_ofNat h]

set_option maxRecDepth 100000 in
theorem int_any (v0 : Value) (l : List UInt8) (n : Int) (w : World) (hHas : Has w v0 l) (h1 : -9223372036854775808 ≤ n) (h2 : n ≤ 9223372036854775807) (hl : l.length ≤ 140737488355000) :
    Calls Try.prog 14 #[v0, .int .i64 n] w (PutsTo w v0 (l ++ putI n)) := by
  obtain ⟨i0, hi, hz0, hz1, hz2⟩ := info_parts info_u8
  have HI := Lib.hid hi
  clear hi
  by_cases hneg : n < 0
  all_goals
    go_enter Try.func14, Try.ntmps14
    go_wp2
    go_loopw [0, 5] (fun v m wr => At w v0 n l v m wr) (fun _ m _ => (intOf m).toNat)
    case atStart => first | exact At.start hHas h1 h2 _ (zig_neg h1 hneg) | exact At.start hHas h1 h2 _ (by unfold zig; rw [if_neg (show ¬ n < 0 by omega)]; omega)
    case round =>
      obtain ⟨p, f, k, rfl, hput, hk, hf, hk64, hp⟩ := hrel
      have hpl : (l ++ p).length = l.length + p.length := List.length_append
      have HP := Lib.hid hput
      have HL := Lib.hid hpl
      clear hput hpl
      by_cases hc : 127 < k
      · have e1 : bits .and .u64 (k : Int) 127 = (k : Int) % 128 := low7 k hk64
        have e2 : IntKind.u8.wrap ((k : Int) % 128) = (k : Int) % 128 := wraps_u8 _ (by omega) (by omega)
        have e3 : bits .or .u8 ((k : Int) % 128) 128 = (k : Int) % 128 + 128 := up7 (k % 128) (by omega)
        have hb : Hid ((k : Int) % 128 + 128 = ((UInt8.ofNat (k % 128 + 128)).toNat : Int)) := Lib.hid (ofNat_int (n := k % 128 + 128) (by omega))
        go_wp2_with (at_builtin; refine wpList_put rfl _ _ _ _ rfl 5 i0 Try.underlying24 HI.out hz0 hz1 hz2 rfl (hp.has.alloc _) _ [UInt8.ofNat (k % 128 + 128)] rfl ((Rd.byte _ _ _ hb.out _).src Try.underlying24) (by have := HL.out; simp only [List.length_singleton]; omega) ?_; intro v' w' hq)
        go_roundw
        case rel => exact At.next HP.out hk hf hk64 hp hc hq _ (by omega)
        case measure => simp [intOf]; omega
      · have e2 : IntKind.u8.wrap (k : Int) = (k : Int) := wraps_u8 _ (by omega) (by omega)
        have hb := Lib.hid (ofNat_int (n := k) (by omega))
        go_wp2_with (at_builtin; refine wpList_put rfl _ _ _ _ rfl 5 i0 Try.underlying24 HI.out hz0 hz1 hz2 rfl (hp.has.alloc _) _ [UInt8.ofNat k] rfl ((Rd.byte _ _ _ hb.out _).src Try.underlying24) (by have := HL.out; simp only [List.length_singleton]; omega) ?_; intro v' w' hq)
        go_ret
        exact ⟨_, rfl, At.last HP.out hp (by omega) hq⟩

theorem bool_any (v0 : Value) (l : List UInt8) (b : Bool) (w : World) (hHas : Has w v0 l) (hl : l.length ≤ 140737488355000) :
    Calls Try.prog 22 #[v0, .bool b] w (PutsTo w v0 (l ++ putB b)) := by
  obtain ⟨i0, hi, hz0, hz1, hz2⟩ := info_parts info_u8
  have HI := Lib.hid hi
  clear hi
  have hb0 := Lib.hid (ofNat_int (n := 0) (by omega))
  have hb1 := Lib.hid (ofNat_int (n := 1) (by omega))
  cases b
  · go_enter Try.func22, Try.ntmps22
    go_wp2_with (at_builtin; refine wpList_put rfl _ _ _ _ rfl 5 i0 Try.underlying24 HI.out hz0 hz1 hz2 rfl (hHas.alloc _) _ [UInt8.ofNat 0] rfl ((Rd.byte _ _ _ hb0.out _).src Try.underlying24) (by simp only [List.length_singleton]; omega) ?_; intro v' w' hq)
    go_ret
    exact ⟨_, rfl, (Puts.refl hHas).thenAlloc hq⟩
  · go_enter Try.func22, Try.ntmps22
    go_wp2_with (at_builtin; refine wpList_put rfl _ _ _ _ rfl 5 i0 Try.underlying24 HI.out hz0 hz1 hz2 rfl (hHas.alloc _) _ [UInt8.ofNat 1] rfl ((Rd.byte _ _ _ hb1.out _).src Try.underlying24) (by simp only [List.length_singleton]; omega) ?_; intro v' w' hq)
    go_ret
    exact ⟨_, rfl, (Puts.refl hHas).thenAlloc hq⟩

theorem gr_len9 (n : Int) : (putI n).length ≤ 10 := gr_len_le 9 (zig n)

theorem text_any (v0 : Value) (l : List UInt8) (s : ByteArray) (w : World) (hHas : Has w v0 l) (hs : s.size ≤ maxLen) (hl : l.length + s.size ≤ 140737488354000) :
    Calls Try.prog 15 #[v0, .string s] w (PutsTo w v0 (l ++ putT s.data.toList)) := by
  obtain ⟨i0, hi, hz0, hz1, hz2⟩ := info_parts info_u8
  have HI := Lib.hid hi
  clear hi
  have hsz : s.data.toList.length = s.size := by simp
  have HSZ := Lib.hid hsz
  clear hsz
  unfold maxLen at hs
  have hlen := gr_len9 s.size
  go_enter Try.func15, Try.ntmps15
  go_wp2_with fail
  refine (int_any v0 l s.size w hHas (by omega) (by omega) (by omega)).mono ?_
  rintro r w1 ⟨v1, rfl, p1⟩
  go_wp2_with (at_builtin; refine wpList_put rfl _ _ _ _ rfl 5 i0 Try.underlying24 HI.out hz0 hz1 hz2 rfl p1.has _ s.data.toList rfl (strSrc _ Try.underlying9 s) (by have := HSZ.out; rw [List.length_append]; omega) ?_; intro v' w' hq)
  go_ret
  refine ⟨_, rfl, ?_⟩
  have := p1.trans hq
  rw [List.append_assoc] at this
  rw [putT, HSZ.out]
  exact this

theorem ver_any (v0 : Value) (l : List UInt8) (a b : Nat) (m n : Int) (w : World) (ha : floatToIntVal .f64 a .i64 = some m) (hb : floatToIntVal .f64 b .i64 = some n) (hHas : Has w v0 l)
    (h1 : -9223372036854775808 ≤ m) (h2 : m ≤ 9223372036854775807) (h3 : -9223372036854775808 ≤ n) (h4 : n ≤ 9223372036854775807) (hl : l.length ≤ 140737488354000) :
    Calls Try.prog 23 #[v0, .complex .f64 a b] w (PutsTo w v0 (l ++ putV m n)) := by
  have HA := Lib.hid ha
  have HB := Lib.hid hb
  clear ha hb
  have hlen := gr_len9 m
  go_enter Try.func23, Try.ntmps23
  go_wp2_with fail
  refine (ver.epoch_any _ _ _ HA.out _).mono ?_
  rintro r w' ⟨rfl, rfl⟩
  go_wp2_with fail
  refine (int_any v0 l m w hHas h1 h2 (by omega)).mono ?_
  rintro r w1 ⟨v1, rfl, p1⟩
  go_wp2_with fail
  refine (ver.num_any _ _ _ HB.out _).mono ?_
  rintro r w' ⟨rfl, rfl⟩
  go_wp2_with fail
  refine (int_any v1 (l ++ putI m) n w1 p1.has h3 h4 (by rw [List.length_append]; omega)).mono ?_
  rintro r w2 ⟨v2, rfl, p2⟩
  go_wp2_with fail
  go_ret
  refine ⟨_, rfl, ?_⟩
  have := p1.trans p2
  rw [List.append_assoc] at this
  exact this
end Go.Proofs.Ytolgbnpginifkaa.put
