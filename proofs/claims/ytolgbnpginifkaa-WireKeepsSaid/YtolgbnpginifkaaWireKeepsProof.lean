/- For every slice of bytes and every place, WireKeeps returns true and leaves its arguments as they were. No conditions. -/
import Derived.Test.YtolgbnpginifkaaRows
import Derived.WalkKit
import Derived.ProofKit
import Derived.OpenShut
import Derived.ShutString
import Derived.ChangeOld
import Derived.Below
import Derived.Laws.Cover2
import Derived.Test.YtolgbnpginifkaaAwakeC
import Derived.Test.YtolgbnpginifkaaSet
namespace Go.Proofs.Ytolgbnpginifkaa.wireKeeps
open Go.ChangeShapes Go.WideShapes Go.ChangeAt Go.RowKit
open Go.ChangeMaps (open_string shut_string)
set_option linter.unusedVariables false

theorem own : ownKnob Try.prog.godebug = none := by kernel_rfl
theorem laidOut : laidOutB Try.prog = true := by kernel_rfl

/-- What the walk is told of a slice of integers that came in: it is nil; or it leads to a row of 'cap' cells, the numbers 'zs' (the first 'len' are its elements, the rest its spare room), each fitting its kind. -/
def IsRow (k : IntKind) (w : World) (a : Option Addr) (len cap : Nat) (zs : List Int) : Prop :=
  (a = none ∧ len = 0 ∧ cap = 0 ∧ zs = []) ∨
  ∃ x, a = some x ∧ len ≤ cap ∧ cap ≤ maxLen ∧ zs.length = cap ∧ (∀ i, i < zs.length → w.cell? (x.add i) = some (.int k (zs.getD i 0))) ∧ ∀ n ∈ zs, (Lit.int k n).wf = true

open codec st put ref get
theorem vT_parts (l : List UInt8) (k : Nat) : ∃ n x ok, vT (getT l k) = .tuple #[.string n, .int .i64 x, .bool ok] ∧ n.size ≤ 65536 := by
  cases h : getT l k with
  | none => exact ⟨_, _, _, rfl, by show (ByteArray.mk #[]).size ≤ 65536; decide⟩
  | some p =>
    obtain ⟨t, nx⟩ := p
    obtain ⟨_, _, _, hl⟩ := getT_seg h
    exact ⟨_, _, _, rfl, by simpa [ByteArray.size] using hl⟩
def At (W : World) (vc vw : Value) (n : Nat) (lb : List UInt8) (i : Value) (wr : World) : Prop :=
  ∃ (k : Nat) (l' : List UInt8), i = .int .i64 k ∧ k ≤ n ∧ l'.length = n ∧ St W.heap.size W wr [(vc, l'), (vw, lb)]
theorem At.next {W : World} {g off cap n : Nat} {vw : Value} {l' lb : List UInt8} {k : Nat} {wr : World} (s : St W.heap.size W wr [(.slice (some ⟨g, off, none⟩) n cap, l'), (vw, lb)]) (hl : l'.length = n) (hk : k < n) (z : Int) (hz : z = ((k + 1 : Nat) : Int)) :
    At W (.slice (some ⟨g, off, none⟩) n cap) vw n lb (.int .i64 z) (wr.setCell ⟨g, off + k, none⟩ (.int .u8 9)) := by
  subst hz
  exact ⟨k + 1, l'.set k 9, rfl, hk, by simp [hl], s.set (by omega) 9⟩
theorem toListData (s : ByteArray) : s.toList = s.data.toList := ByteArray.toList_eq s
theorem appNil (s : ByteArray) : s ++ ByteArray.mk #[] = s := by
  apply ByteArray.ext
  simp [ByteArray.data_append]

set_option maxRecDepth 100000 in
set_option maxHeartbeats 1000000 in
theorem walk (a0 : Option Addr) (len0 cap0 : Nat) (z0 : List Int) (a1 : Int) (w : World) (w0 : IsRow .u8 w a0 len0 cap0 z0) (w1 : (Lit.int .i64 a1).wf = true) :
    Calls Try.prog 5 #[.slice a0 len0 cap0, .int .i64 a1] w fun e w' => e = .returned (.bool true) ∧ Below w.heap.size w w' := by
  have i1 := bounds_i64 w1
  obtain ⟨lb, rfl, rb⟩ := Rd.ofRow w0
  clear w0
  have RB := Lib.hid rb
  clear rb
  by_cases h0 : 5000 < lb.length
  · skip
    go_enter Try.func5, Try.ntmps5
    go_wp2_with fail
    refine (awake3.awake_any _).mono ?_
    rintro r w' ⟨rfl, hb⟩
    go_wp2_with fail
    go_ret
    exact ⟨rfl, hb⟩
  by_cases h1 : a1 < 0
  · skip
    go_enter Try.func5, Try.ntmps5
    go_wp2_with fail
    refine (awake3.awake_any _).mono ?_
    rintro r w' ⟨rfl, hb⟩
    go_wp2_with fail
    go_ret
    exact ⟨rfl, hb⟩
  by_cases h2 : 6000 < a1
  · skip
    go_enter Try.func5, Try.ntmps5
    go_wp2_with fail
    refine (awake3.awake_any _).mono ?_
    rintro r w' ⟨rfl, hb⟩
    go_wp2_with fail
    go_ret
    exact ⟨rfl, hb⟩
  obtain ⟨j0, hi, hz0, hz1, hz2⟩ := info_parts info_u8
  have HI := Lib.hid hi
  clear hi
  obtain ⟨k, rfl⟩ : ∃ k : Nat, a1 = k := ⟨a1.toNat, by omega⟩
  obtain ⟨S, u, yes, eT, hS⟩ := vT_parts lb k
  have ET := Lib.hid eT
  clear eT
  have hq : (S.toList == (S ++ (ByteArray.mk #[])).toList) = true := by rw [appNil]; simp
  have s1 := (St.start w).lit' [] #[] 5 0 _ rfl rfl (by decide) rfl
  go_enter Try.func5, Try.ntmps5
  go_wp2_with (at_builtin; refine wpList_put rfl _ _ _ _ rfl 5 j0 Try.underlying24 HI.out hz0 hz1 hz2 rfl s1.has0 _ lb rfl (((s1.old RB.out)).src Try.underlying24) (by simp only [List.length_nil]; omega) ?_; intro vw w1 q1)
  have s2 := s1.app0 q1
  obtain ⟨aw, cw, hw⟩ := q1.has.len
  rw [List.nil_append] at hw s2
  subst hw
  refine (get.text_any _ lb k _ (s2.old RB.out) (by omega) (by omega)).mono ?_
  rintro r w' ⟨rfl, rfl⟩
  rw [ET.out]
  have s3 := s2.lit' [] #[] 5 0 _ rfl rfl (by decide) rfl
  go_wp2_with (at_builtin; refine wpList_put rfl _ _ _ _ rfl 5 j0 Try.underlying24 HI.out hz0 hz1 hz2 rfl s3.has0 _ lb rfl (((s3.old RB.out)).src Try.underlying24) (by simp only [List.length_nil]; omega) ?_; intro vc w4 q4)
  have s4 := s3.app0 q4
  obtain ⟨ac, cc, hc⟩ := q4.has.len
  rw [List.nil_append] at hc s4
  subst hc
  refine (get.text_any _ lb k _ s4.has0.rd (by omega) (by omega)).mono ?_
  rintro r w' ⟨rfl, rfl⟩
  rw [ET.out]
  go_wp2_with fail
  go_loopw [14] (fun i wr => At w (.slice ac lb.length cc) (.slice aw lb.length cw) lb.length lb i wr) (fun i _ => lb.length - (intOf i).toNat)
  case atStart => exact ⟨0, lb, rfl, Nat.zero_le _, rfl, s4⟩
  case round =>
    obtain ⟨i, l', rfl, hi, hl', s5⟩ := hrel
    have HL := Lib.hid hl'
    by_cases hlt : i < lb.length
    · obtain ⟨g, off, cap, uu, hv, hcell, hfr⟩ := s5.has0.at (show i < l'.length by omega)
      clear hl'
      simp only [Value.slice.injEq] at hv
      obtain ⟨rfl, -, rfl⟩ := hv
      go_wp2_with fail
      go_roundw
      case rel => exact At.next s5 HL.out hlt _ (by omega)
      case measure => simp [intOf]; omega
    · clear hl'
      go_wp2_with fail
      refine (awake3.awake_any _).mono ?_
      rintro r w6 ⟨rfl, hb6⟩
      have s6 := s5.quiet hb6
      go_wp2_with fail
      refine (same_any _ _ lb lb _ (s6.old RB.out) s6.has1.rd).mono ?_
      rintro r w7 ⟨rfl, hb7⟩
      simp only [decide_true]
      go_wp2_with fail
      go_ret
      exact ⟨rfl, (s6.quiet hb7).bel⟩

set_option maxRecDepth 100000 in
theorem lifted (os : Os) (started : os.Started) (H : Type) (enc : TypeId × Value → H) :
    ReturnsInHanded {} Try.checked os 5 .any (Rows.wireKeepsSpec.pre6 enc Try.prog Try.f5 Rows.wireKeepsRow.domain false) (Rows.wireKeepsSpec.post enc Try.prog Try.f5 false true false false) := by
  refine returnsInHanded_of_change (C := Try.checked) own started (by kernel_rfl) Try.func5
    (ChangeSpec.witness6 (enc := enc) (C := Try.checked) false ⟨#[], #[.slice none 0 0, .int .i64 0], []⟩ 8 (by kernel_rfl) (by kernel_rfl) (by kernel_rfl) (by kernel_rfl)) ?_
  intro W base args ds gs before hval0 hW hcnd _
  have hval : ∀ (j : Nat) t v, Try.f5.params[j]? = some t → args[j]? = some v → Value.okWide Try.prog W .any base t v := hval0
  have hW' := hW
  obtain ⟨p, q, hA0, hV, rfl, hfz, hnd⟩ := hW
  have hA : DataW.TrodAll enc Try.prog W 0 (fun _ => true) true Try.f5.params.toList args.toList ds p := hA0
  rw [Try.params5] at hA hval
  obtain ⟨v0, vs0, d0, ds0, p0, q0, hargs, rfl, rfl, h0, r0⟩ := trodAll_cons hA
  obtain ⟨v1, vs1, d1, ds1, p1, q1, rfl, rfl, rfl, h1, r1⟩ := trodAll_cons r0
  obtain ⟨rfl, rfl, rfl⟩ := trodAll_nil r1
  obtain rfl : args = #[v0, v1] := by cases args; simp_all
  obtain ⟨rfl, rfl⟩ := trodVars_none hV
  obtain ⟨a0, len0, cap0, rfl⟩ := okWide_slice Try.underlying24 (hval 0 24 v0 rfl rfl)
  have k0 := h0
  have lt0 : ∀ x ∈ p0, x.block < W.heap.size := by obtain ⟨m, hm⟩ := k0; exact DataW.trod_lt m _ _ _ hm
  obtain ⟨z0, w0⟩ : ∃ zs, IsRow .u8 W a0 len0 cap0 zs := by
    obtain ⟨fuel, hf⟩ := h0
    rcases open_ints Try.underlying24 Try.underlying5 (by kernel_rfl) hf with ⟨hcs, _⟩ | ⟨x, l, c, zs, hcs, _, hl, hm, hz, _, hcell, hwz⟩
    · simp [Value.cells] at hcs
      obtain ⟨rfl, rfl, rfl⟩ := hcs
      exact ⟨[], .inl ⟨rfl, rfl, rfl, rfl⟩⟩
    · simp [Value.cells] at hcs
      obtain ⟨rfl, rfl, rfl⟩ := hcs
      exact ⟨zs, .inr ⟨_, rfl, hl, hm, by simpa using hz, hcell, hwz⟩⟩
  obtain ⟨a1, rfl, rfl, rfl, w1⟩ := open_int Try.underlying3 (hval 1 3 v1 rfl rfl) h1
  clear hA0 hval0
  refine (walk a0 len0 cap0 z0 a1 W w0 w1).mono fun e W' ⟨he, bel⟩ => ?_
  subst he
  exact ⟨_, rfl, _, _, _, [], _, [], hW', trodAll_mk1 (shut_bool Try.underlying4 _), (trodAll_cons_mk (Below.trod laidOut (by kernel_rfl) (of_decide_eq_true (by kernel_rfl)) k0 bel lt0) (trodAll_cons_mk (shut_int Try.underlying3 w1) trodAll_mk0)), rfl, bel.frame _, fun h => by cases h⟩

theorem over : Rows.wireKeepsRow.holds Try.pinned (OpenSpec.ofChange Rows.wireKeepsSpec) :=
  OpenClaim.holds_of_wide 5 Try.f5 rfl rfl rfl rfl rfl rfl rfl ⟨rfl, rfl, rfl, rfl, rfl⟩ rfl rfl rfl rfl rfl (by kernel_rfl) Try.func5 (by kernel_rfl)
    (of_decide_eq_true (by kernel_rfl)) (by unfold Func.isWrapper; first | (rw [if_pos (by decide +kernel)]; kernel_rfl) | (rw [if_neg (by decide +kernel)]; exact ⟨rfl, rfl⟩))
    (fun os started H enc _ => lifted os started H enc)

/-- The statement. -/
theorem proved : Rows.WireKeepsSaid := over
#print axioms proved
end Go.Proofs.Ytolgbnpginifkaa.wireKeeps
