/- The contracts of lockgateref03's writers, and of its comparisons. -/
import Derived.Test.YtolgbnpginifkaaPut
import Derived.Deep.QuietTactic
import Derived.BigQuiet
namespace Go.Proofs.Ytolgbnpginifkaa.ref
open Go.ChangeShapes Go.WideShapes Go.ChangeAt Go.RowKit codec st own put

set_option maxRecDepth 100000 in
theorem rint_any (n : Int) (w : World) (h1 : -9223372036854775808 ≤ n) (h2 : n ≤ 9223372036854775807) :
    Calls Try.prog 20 #[.int .i64 n] w (PutsTo w (.slice none 0 0) ([] ++ putI n)) := by
  obtain ⟨i0, hi, hz0, hz1, hz2⟩ := info_parts info_u8
  have HI := Lib.hid hi
  clear hi
  have hNil := Has.nil w
  by_cases hneg : n < 0
  all_goals
    go_enter Try.func20, Try.ntmps20
    go_wp2
    go_loopw [4, 3] (fun v m wr => At w (.slice none 0 0) n [] v m wr) (fun _ m _ => (intOf m).toNat)
    case atStart => first | exact At.start hNil h1 h2 _ (by unfold zig; rw [if_pos hneg]; omega) | exact At.start hNil h1 h2 _ (by unfold zig; rw [if_neg (show ¬ n < 0 by omega)]; omega)
    case round =>
      obtain ⟨p, f, k, rfl, hput, hk, hf, hk64, hp⟩ := hrel
      have hpl : (([] : List UInt8) ++ p).length = p.length := by simp
      have HP := Lib.hid hput
      have HL := Lib.hid hpl
      clear hput hpl
      by_cases hc : 127 < k
      · have e2 : IntKind.u8.wrap (128 + (k : Int) % 128) = 128 + (k : Int) % 128 := wraps_u8 _ (by omega) (by omega)
        have hb : Hid (128 + (k : Int) % 128 = ((UInt8.ofNat (k % 128 + 128)).toNat : Int)) := Lib.hid (by rw [← ofNat_int (n := k % 128 + 128) (by omega)]; omega)
        go_wp2_with (at_builtin; refine wpList_put rfl _ _ _ _ rfl 5 i0 Try.underlying24 HI.out hz0 hz1 hz2 rfl (hp.has.alloc _) _ [UInt8.ofNat (k % 128 + 128)] rfl ((Rd.byte _ _ _ hb.out _).src Try.underlying24) (by have := HL.out; simp only [List.length_singleton]; omega) ?_; intro v' w' hq)
        go_roundw
        case rel => exact At.next HP.out hk hf hk64 hp hc hq _ (by omega)
        case measure => simp [intOf]; omega
      · have e2 : IntKind.u8.wrap (k : Int) = (k : Int) := wraps_u8 _ (by omega) (by omega)
        have hb := Lib.hid (ofNat_int (n := k) (by omega))
        go_wp2_with (at_builtin; refine wpList_put rfl _ _ _ _ rfl 5 i0 Try.underlying24 HI.out hz0 hz1 hz2 rfl (hp.has.alloc _) _ [UInt8.ofNat k] rfl ((Rd.byte _ _ _ hb.out _).src Try.underlying24) (by have := HL.out; simp only [List.length_singleton]; omega) ?_; intro v' w' hq)
        go_ret
        exact ⟨_, rfl, At.last HP.out hp (by omega) hq⟩

theorem get_lt {l : List UInt8} {i : Nat} (h : i < l.length) : ∃ c, l[i]? = some c := ⟨_, List.getElem?_eq_getElem h⟩

def TextAt (w : World) (t : List UInt8) (v i : Value) (wr : World) : Prop :=
  ∃ k : Nat, i = .int .i64 k ∧ k ≤ t.length ∧ Puts w wr (.slice none 0 0) v (putI t.length ++ t.take k)

theorem TextAt.next {w wr w' : World} {t : List UInt8} {v v' : Value} {k : Nat} {c : UInt8} (hk : k < t.length) (hc : t[k]? = some c) (hp : Puts w wr (.slice none 0 0) v (putI t.length ++ t.take k)) {o : Obj}
    (q : Puts (wr.alloc o) w' v v' ((putI t.length ++ t.take k) ++ [c])) (z : Int) (hz : z = ((k + 1 : Nat) : Int)) : TextAt w t v' (.int .i64 z) w' := by
  subst hz
  refine ⟨k + 1, rfl, hk, ?_⟩
  have e : t.take (k + 1) = t.take k ++ [c] := by
    rw [List.take_add_one, hc]; rfl
  rw [e, ← List.append_assoc]
  exact hp.thenAlloc q

set_option maxRecDepth 100000 in
theorem rtext_any (s : ByteArray) (w : World) (hs : s.size ≤ 140737488300000) :
    Calls Try.prog 21 #[.string s] w (PutsTo w (.slice none 0 0) ([] ++ putT s.data.toList)) := by
  obtain ⟨i0, hi, hz0, hz1, hz2⟩ := info_parts info_u8
  have HI := Lib.hid hi
  clear hi
  have hsz : s.data.toList.length = s.size := by simp
  have HSZ := Lib.hid hsz
  clear hsz
  have hlen := gr_len9 s.size
  go_enter Try.func21, Try.ntmps21
  go_wp2_with fail
  refine (rint_any s.size w (by omega) (by omega)).mono ?_
  rintro r w1 ⟨v1, rfl, p1⟩
  go_wp2
  go_loopw [3, 4] (fun v i wr => TextAt w s.data.toList v i wr) (fun _ i _ => s.size - (intOf i).toNat)
  case atStart => exact ⟨0, rfl, Nat.zero_le _, by rw [HSZ.out, List.take_zero, List.append_nil]; exact p1⟩
  case round =>
    obtain ⟨k, rfl, hk, hp⟩ := hrel
    have HK := Lib.hid hk
    have hk' : k ≤ s.size := by rw [← HSZ.out]; exact hk
    clear hk
    have HL : Hid ((putI s.data.toList.length ++ s.data.toList.take k).length ≤ 10 + s.size) := Lib.hid (by rw [List.length_append, HSZ.out]; have := List.length_take_le k s.data.toList; have := HSZ.out; have := List.length_take_le' k s.data.toList; omega)
    by_cases hc : k < s.size
    · obtain ⟨c, hcc⟩ := get_lt (l := s.data.toList) (i := k) (by rw [HSZ.out]; exact hc)
      have HC := Lib.hid hcc
      clear hcc
      have hb : Hid ((s[k].toNat : Int) = (c.toNat : Int)) := Lib.hid (by
        have h := HC.out
        rw [List.getElem?_eq_getElem (by rw [HSZ.out]; exact hc)] at h
        simp only [Option.some.injEq] at h
        rw [← h]; rfl)
      go_wp2_with (at_builtin; refine wpList_put rfl _ _ _ _ rfl 5 i0 Try.underlying24 HI.out hz0 hz1 hz2 rfl (hp.has.alloc _) _ [c] rfl ((Rd.byte _ _ _ hb.out _).src Try.underlying24) (by have := HL.out; simp only [List.length_singleton]; omega) ?_; intro v' w' hq)
      go_roundw
      case rel => exact TextAt.next (by rw [HSZ.out]; exact hc) HC.out hp hq _ (by omega)
      case measure => simp [intOf]; omega
    · go_wp2
      go_ret
      refine ⟨_, rfl, ?_⟩
      rw [List.take_of_length_le (by rw [HSZ.out]; omega)] at hp
      exact hp

def SameAt (w : World) (l1 l2 : List UInt8) (i : Value) (wr : World) : Prop :=
  ∃ k : Nat, i = .int .i64 k ∧ k ≤ l1.length ∧ l1.take k = l2.take k ∧ Below w.heap.size w wr

theorem below_drewN (B : Nat) (w : World) (n : Nat) : Below B w (w.drewN n) := ⟨rfl, rfl, rfl, Nat.le_refl _, fun _ _ => rfl⟩

theorem SameAt.next {w wr : World} {l1 l2 : List UInt8} {k : Nat} {c d : UInt8} (hk : k < l1.length) (h : l1.take k = l2.take k) (hc : l1[k]? = some c) (hd : l2[k]? = some d) (e : c = d) (hb : Below w.heap.size w wr) (z : Int) (hz : z = ((k + 1 : Nat) : Int)) (n : Nat) :
    SameAt w l1 l2 (.int .i64 z) (wr.drewN n) := by
  subst hz
  subst e
  refine ⟨k + 1, rfl, hk, ?_, hb.trans (below_drewN _ _ _)⟩
  rw [List.take_add_one, List.take_add_one, h, hc, hd]

theorem ret_bool {a b : Bool} (h : a = b) : Ending.returned (.bool a) = .returned (.bool b) := by rw [h]
def Says (w : World) (b : Bool) (e : Ending) (w' : World) : Prop := e = .returned (.bool b) ∧ Below w.heap.size w w'

set_option maxRecDepth 100000 in
theorem same_any (v1 v2 : Value) (l1 l2 : List UInt8) (w : World) (h1 : Rd w v1 l1) (h2 : Rd w v2 l2) :
    Calls Try.prog 18 #[v1, v2] w (Says w (decide (l1 = l2))) := by
  have H1 := Lib.hid h1
  have H2 := Lib.hid h2
  obtain ⟨a1, c1, rfl, k1, m1, -⟩ := h1
  obtain ⟨a2, c2, rfl, k2, m2, -⟩ := h2
  unfold maxLen at m1 m2
  by_cases hl : l1.length = l2.length
  · rw [← hl]
    have HL := Lib.hid hl
    clear hl k2 m2
    go_enter Try.func18, Try.ntmps18
    go_wp2
    go_loopw [5] (fun i wr => SameAt w l1 l2 i wr) (fun i _ => l1.length - (intOf i).toNat)
    case atStart => exact ⟨0, rfl, Nat.zero_le _, rfl, Below.refl _ _⟩
    case round =>
      obtain ⟨k, rfl, hk, heq, hbel⟩ := hrel
      have HE := Lib.hid heq
      clear heq
      by_cases hc : k < l1.length
      · obtain ⟨c, hcc⟩ := get_lt (l := l1) (i := k) hc
        obtain ⟨d, hdd⟩ := get_lt (l := l2) (i := k) (by rw [← HL.out]; exact hc)
        have r1 := H1.out.below hbel (Nat.le_refl _)
        have r2 := H2.out.below hbel (Nat.le_refl _)
        obtain ⟨a1', c1', e1, _, _, f1⟩ := r1
        obtain ⟨a2', c2', e2, _, _, f2⟩ := r2
        simp only [Value.slice.injEq] at e1 e2
        obtain ⟨rfl, _, rfl⟩ := e1
        obtain ⟨rfl, _, rfl⟩ := e2
        obtain ⟨x1, rfl, g1⟩ := f1 k c hcc
        obtain ⟨x2, rfl, g2⟩ := f2 k d hdd
        unfold B at g1 g2
        have HC := Lib.hid hcc
        have HD := Lib.hid hdd
        clear hcc hdd f1 f2
        by_cases hcd : c = d
        · have hq : ((c.toNat : Int) != (d.toNat : Int)) = false := by subst hcd; simp
          have HCD := Lib.hid hcd
          clear hcd
          go_wp2
          go_quiet (fail)
          go_wp2
          go_roundw
          case rel => exact SameAt.next hc HE.out HC.out HD.out HCD.out hbel _ (by omega) _
          case measure => simp [intOf]; omega
        · have hq : ((c.toNat : Int) != (d.toNat : Int)) = true := by
            simp only [bne_iff_ne, ne_eq]
            intro e
            exact hcd (UInt8.toNat_inj.1 (by omega))
          go_wp2
          go_quiet (fail)
          go_wp2
          go_ret
          exact ⟨ret_bool (decide_eq_false (fun e => hcd (by have h1 := HC.out; rw [e, HD.out] at h1; simpa using h1.symm))).symm, hbel.trans (below_drewN _ _ _)⟩
      · go_wp2
        go_ret
        exact ⟨ret_bool (decide_eq_true (by
          have h := HE.out
          rw [List.take_of_length_le (by omega), List.take_of_length_le (by have := HL.out; omega)] at h
          exact h)).symm, hbel⟩
  · have hq : ((l1.length : Int) != (l2.length : Int)) = true := by
      simp only [bne_iff_ne, ne_eq]; omega
    go_enter Try.func18, Try.ntmps18
    go_wp2
    go_ret
    exact ⟨ret_bool (decide_eq_false (fun e => hl (by rw [e]))).symm, Below.refl _ _⟩

theorem begins_any (v1 v2 : Value) (l1 l2 : List UInt8) (w : World) (h1 : Rd w v1 l1) (h2 : Rd w v2 l2) :
    Calls Try.prog 13 #[v1, v2] w (Says w (decide (l2 = l1.take l2.length))) := by
  have H1 := Lib.hid h1
  have H2 := Lib.hid h2
  obtain ⟨a1, c1, rfl, k1, m1, f1⟩ := h1
  obtain ⟨a2, c2, rfl, k2, m2, f2⟩ := h2
  have F1 := Lib.hid f1
  clear f1 f2
  unfold maxLen at m1 m2
  by_cases hl : l2.length ≤ l1.length
  · have hr : Hid (Rd w (.slice a1 l2.length c1) (l1.take l2.length)) := Lib.hid (by
      have e : (l1.take l2.length).length = l2.length := by rw [List.length_take]; omega
      refine ⟨a1, c1, by rw [e], by rw [e]; omega, by unfold maxLen; omega, fun i c hi => F1.out i c ?_⟩
      rw [List.getElem?_take] at hi
      split at hi
      · exact hi
      · cases hi)
    go_enter Try.func13, Try.ntmps13
    go_wp2_with fail
    refine (same_any _ _ _ _ _ H2.out hr.out).mono ?_
    rintro r w' ⟨rfl, hb⟩
    go_wp2
    go_ret
    exact ⟨rfl, hb⟩
  · go_enter Try.func13, Try.ntmps13
    go_wp2
    go_ret
    exact ⟨ret_bool (decide_eq_false (fun e => hl (by
      have := congrArg List.length e
      rw [List.length_take] at this
      omega))).symm, Below.refl _ _⟩
end Go.Proofs.Ytolgbnpginifkaa.ref
