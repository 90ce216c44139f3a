/- For every slice of bytes and every place, EntryKeeps returns true and leaves its arguments as they were. No conditions. -/
import Derived.Test.YtolgbnpginifkaaRows
import Derived.WalkKit
import Derived.ProofKit
import Derived.OpenShut
import Derived.ShutString
import Derived.ChangeOld
import Derived.Below
import Derived.Laws.Cover2
import Derived.Test.YtolgbnpginifkaaAwakeE
import Derived.Test.YtolgbnpginifkaaSet
namespace Go.Proofs.Ytolgbnpginifkaa.entryKeeps
open Go.ChangeShapes Go.WideShapes Go.ChangeAt Go.RowKit
open Go.ChangeMaps (open_string shut_string)
set_option linter.unusedVariables false

theorem own : ownKnob Try.prog.godebug = none := by kernel_rfl
theorem laidOut : laidOutB Try.prog = true := by kernel_rfl

/-- What the walk is told of a slice of integers that came in: it is nil; or it leads to a row of 'cap' cells, the numbers 'zs' (the first 'len' are its elements, the rest its spare room), each fitting its kind. -/
def IsRow (k : IntKind) (w : World) (a : Option Addr) (len cap : Nat) (zs : List Int) : Prop :=
  (a = none ∧ len = 0 ∧ cap = 0 ∧ zs = []) ∨
  ∃ x, a = some x ∧ len ≤ cap ∧ cap ≤ maxLen ∧ zs.length = cap ∧ (∀ i, i < zs.length → w.cell? (x.add i) = some (.int k (zs.getD i 0))) ∧ ∀ n ∈ zs, (Lit.int k n).wf = true

open codec st put ref get blk ent entget
theorem vE_parts (l : List UInt8) (k : Nat) : ∃ A B n1 t1 t2 b1 b2 n2 n3 n4 t3 b3 x ok, vE (getE l k) = .tuple #[.agg #[.complex .f64 A B, .int .i64 n1, .string t1, .string t2, .bool b1, .bool b2, .int .i64 n2, .int .i64 n3, .int .i64 n4, .string t3, .bool b3], .int .i64 x, .bool ok] ∧
    (FloatKind.f64.format.order A A == some Ordering.eq) = true ∧ (FloatKind.f64.format.order B B == some Ordering.eq) = true := by
  cases h : getE l k with
  | none =>
    have q := ver.eq_refl_F 0 (by omega) (by omega)
    rw [awake5.zBits] at q
    exact ⟨_, _, _, _, _, _, _, _, _, _, _, _, _, _, rfl, q, q⟩
  | some p =>
    obtain ⟨e, x⟩ := p
    obtain ⟨_, _, _, f1, f2, _⟩ := getE_seg h
    have g1 := fit_bounds f1
    have g2 := fit_bounds f2
    have q1 := ver.eq_refl_F e.ep g1.1 (by omega)
    have q2 := ver.eq_refl_F e.no g2.1 (by omega)
    exact ⟨_, _, _, _, _, _, _, _, _, _, _, _, _, _, rfl, q1, q2⟩
theorem vO_parts (l : List UInt8) (k : Nat) : ∃ m1 r1 r2 r3 d1 x ok, vO (getO l k) = .tuple #[.agg #[.int .i64 m1, .string r1, .string r2, .string r3, .bool d1], .int .i64 x, .bool ok] := by
  cases h : getO l k with
  | none => exact ⟨_, _, _, _, _, _, _, rfl⟩
  | some p => exact ⟨_, _, _, _, _, _, _, rfl⟩

def At (W : World) (vc : Value) (n be bo : Nat) (ce co : List Value) (i : Value) (wr : World) : Prop :=
  ∃ (k : Nat) (l' : List UInt8), i = .int .i64 k ∧ k ≤ n ∧ l'.length = n ∧ St W.heap.size W wr [(vc, l')] ∧ Blk wr be ce ∧ Blk wr bo co
theorem At.next {W : World} {g off cap n be bo : Nat} {ce co : List Value} {l' : List UInt8} {k : Nat} {wr : World} (s : St W.heap.size W wr [(.slice (some ⟨g, off, none⟩) n cap, l')]) (kE : Blk wr be ce) (kO : Blk wr bo co) (h1 : g < be) (h2 : g < bo) (hl : l'.length = n) (hk : k < n) (z : Int) (hz : z = ((k + 1 : Nat) : Int)) :
    At W (.slice (some ⟨g, off, none⟩) n cap) n be bo ce co (.int .i64 z) (wr.setCell ⟨g, off + k, none⟩ (.int .u8 7)) := by
  subst hz
  exact ⟨k + 1, l'.set k 7, rfl, hk, by simp [hl], s.set (by omega) 7, kE.other _ (by show be ≠ g; omega), kO.other _ (by show bo ≠ g; omega)⟩

set_option maxRecDepth 100000 in
set_option maxHeartbeats 4000000 in
theorem walk (a0 : Option Addr) (len0 cap0 : Nat) (z0 : List Int) (a1 : Int) (w : World) (w0 : IsRow .u8 w a0 len0 cap0 z0) (w1 : (Lit.int .i64 a1).wf = true) :
    Calls Try.prog 9 #[.slice a0 len0 cap0, .int .i64 a1] w fun e w' => e = .returned (.bool true) ∧ Below w.heap.size w w' := by
  have i1 := bounds_i64 w1
  obtain ⟨lb, rfl, rb⟩ := Rd.ofRow w0
  clear w0
  have RB := Lib.hid rb
  clear rb
  by_cases h0 : 3000 < lb.length
  · skip
    go_enter Try.func9, Try.ntmps9
    go_wp2_with fail
    refine (awake5.awake_any _).mono ?_
    rintro r w1 ⟨rfl, hb1⟩
    go_wp2_with fail
    refine (awake5.awake_any _).mono ?_
    rintro r w2 ⟨rfl, hb2⟩
    go_wp2_with fail
    go_ret
    exact ⟨rfl, hb1.trans (hb2.mono hb1.size)⟩
  by_cases h1 : a1 < 0
  · skip
    go_enter Try.func9, Try.ntmps9
    go_wp2_with fail
    refine (awake5.awake_any _).mono ?_
    rintro r w1 ⟨rfl, hb1⟩
    go_wp2_with fail
    refine (awake5.awake_any _).mono ?_
    rintro r w2 ⟨rfl, hb2⟩
    go_wp2_with fail
    go_ret
    exact ⟨rfl, hb1.trans (hb2.mono hb1.size)⟩
  by_cases h2 : 4000 < a1
  · skip
    go_enter Try.func9, Try.ntmps9
    go_wp2_with fail
    refine (awake5.awake_any _).mono ?_
    rintro r w1 ⟨rfl, hb1⟩
    go_wp2_with fail
    refine (awake5.awake_any _).mono ?_
    rintro r w2 ⟨rfl, hb2⟩
    go_wp2_with fail
    go_ret
    exact ⟨rfl, hb1.trans (hb2.mono hb1.size)⟩
  obtain ⟨j0, hi, hz0, hz1, hz2⟩ := info_parts info_u8
  have HI := Lib.hid hi
  clear hi
  obtain ⟨k, rfl⟩ : ∃ k : Nat, a1 = k := ⟨a1.toNat, by omega⟩
  have hst : ∀ (x y : Nat) (w : World) (a : Addr) (q : Mode), (store a (.complex .f64 x y) q).run Try.prog w = stored Try.prog w a (.complex .f64 x y) q := fun x y w a q => run_store Try.prog w a _ q rfl
  have hce := awake5.equalC
  obtain ⟨A, B, n1, t1, t2, b1, b2, n2, n3, n4, t3, b3, x, ok, eE, q1, q2⟩ := vE_parts lb k
  obtain ⟨m1, r1, r2, r3, d1, y, yes, eO⟩ := vO_parts lb k
  have EE := Lib.hid eE
  have EO := Lib.hid eO
  clear eE eO
  go_enter Try.func9, Try.ntmps9
  go_wp2_with fail
  refine (awake5.awake_any _).mono ?_
  rintro r w1 ⟨rfl, hb1⟩
  have s1 := ((St.start w).quiet hb1).lit' [] #[] 5 0 _ rfl rfl (by decide) rfl
  go_wp2_with (at_builtin; refine wpList_put rfl _ _ _ _ rfl 5 j0 Try.underlying24 HI.out hz0 hz1 hz2 rfl s1.has0 _ lb rfl (((s1.old RB.out)).src Try.underlying24) (by simp only [List.length_nil]; omega) ?_; intro vc w2 p2)
  have s2 : St w.heap.size w w2 [(vc, lb)] := s1.app0 p2
  obtain ⟨ac, cc, hc⟩ := (show Has w2 vc lb from s2.has0).len
  subst hc
  have hlt2 := (show Has w2 (.slice ac lb.length cc) lb from s2.has0).lt
  refine (entget.ent_any _ lb k _ s2.has0.rd (by omega) (by omega)).mono ?_
  rintro r w3 ⟨rfl, hb3⟩
  rw [EE.out]
  have s3 := s2.quiet hb3
  have kE3 := Blk.new w3 [.complex .f64 A B, .int .i64 n1, .string t1, .string t2, .bool b1, .bool b2, .int .i64 n2, .int .i64 n3, .int .i64 n4, .string t3, .bool b3] 48
  have s3a := s3.alloc (.cells #[.complex .f64 A B, .int .i64 n1, .string t1, .string t2, .bool b1, .bool b2, .int .i64 n2, .int .i64 n3, .int .i64 n4, .string t3, .bool b3] 48)
  go_wp2_with fail
  refine (entget.op_any _ lb k _ s3a.has0.rd (by omega) (by omega)).mono ?_
  rintro r w4 ⟨rfl, hb4⟩
  rw [EO.out]
  have s4 := s3a.quiet hb4
  have kE4 := kE3.below hb4 kE3.lt
  have kO4 := Blk.new w4 [.int .i64 m1, .string r1, .string r2, .string r3, .bool d1] 52
  have s4a := s4.alloc (.cells #[.int .i64 m1, .string r1, .string r2, .string r3, .bool d1] 52)
  have kE4a := kE4.alloc (.cells #[.int .i64 m1, .string r1, .string r2, .string r3, .bool d1] 52)
  have hord := kE4.lt
  have hle3 := hb3.size
  go_wp2_with fail
  refine (same_any _ _ lb lb _ (s4a.old RB.out) s4a.has0.rd).mono ?_
  rintro r w5 ⟨rfl, hb5⟩
  simp only [decide_true]
  have s5 := s4a.quiet hb5
  have kE5 := kE4a.below hb5 kE4a.lt
  have kO5 := kO4.below hb5 kO4.lt
  go_wp2_with fail
  go_loopw [12] (fun i wr => At w (.slice ac lb.length cc) lb.length w3.heap.size w4.heap.size [.complex .f64 A B, .int .i64 n1, .string t1, .string t2, .bool b1, .bool b2, .int .i64 n2, .int .i64 n3, .int .i64 n4, .string t3, .bool b3] [.int .i64 m1, .string r1, .string r2, .string r3, .bool d1] i wr) (fun i _ => lb.length - (intOf i).toNat)
  case atStart => exact ⟨0, lb, rfl, Nat.zero_le _, rfl, s5, kE5, kO5⟩
  case round =>
    obtain ⟨i, l', rfl, hi, hl', s6, kE6, kO6⟩ := hrel
    have HL := Lib.hid hl'
    by_cases hlt : i < lb.length
    · obtain ⟨g, off, cap, uu, hv, hcell, hfr⟩ := s6.has0.at (show i < l'.length by omega)
      clear hl'
      simp only [Value.slice.injEq] at hv
      obtain ⟨rfl, -, rfl⟩ := hv
      have hg : g < w2.heap.size := hlt2 g rfl
      clear hlt2
      go_wp2_with fail
      go_roundw
      case rel => exact At.next s6 kE6 kO6 (by omega) (by omega) HL.out hlt _ (by omega)
      case measure => simp [intOf]; omega
    · clear hl' hlt2
      go_wp2_with fail
      refine (entget.ent_any _ lb k _ (s6.old RB.out) (by omega) (by omega)).mono ?_
      rintro r w7 ⟨rfl, hb7⟩
      rw [EE.out]
      have s7 := s6.quiet hb7
      have kE7 := kE6.below hb7 kE6.lt
      have kO7 := kO6.below hb7 kO6.lt
      have kF7 := Blk.new w7 [.complex .f64 A B, .int .i64 n1, .string t1, .string t2, .bool b1, .bool b2, .int .i64 n2, .int .i64 n3, .int .i64 n4, .string t3, .bool b3] 48
      have s7a := s7.alloc (.cells #[.complex .f64 A B, .int .i64 n1, .string t1, .string t2, .bool b1, .bool b2, .int .i64 n2, .int .i64 n3, .int .i64 n4, .string t3, .bool b3] 48)
      have kE7a := kE7.alloc (.cells #[.complex .f64 A B, .int .i64 n1, .string t1, .string t2, .bool b1, .bool b2, .int .i64 n2, .int .i64 n3, .int .i64 n4, .string t3, .bool b3] 48)
      have kO7a := kO7.alloc (.cells #[.complex .f64 A B, .int .i64 n1, .string t1, .string t2, .bool b1, .bool b2, .int .i64 n2, .int .i64 n3, .int .i64 n4, .string t3, .bool b3] 48)
      go_wp2_with fail
      refine (entget.op_any _ lb k _ (s7a.old RB.out) (by omega) (by omega)).mono ?_
      rintro r w8 ⟨rfl, hb8⟩
      rw [EO.out]
      have s8 := s7a.quiet hb8
      have kE8 := kE7a.below hb8 kE7a.lt
      have kO8 := kO7a.below hb8 kO7a.lt
      have kF8 := kF7.below hb8 kF7.lt
      have g1 := kE8.lt
      have g2 := kO8.lt
      have g3 := kF8.lt
      have ce0 := kE8.cell (j := 0) rfl
      have cf0 := kF8.cell (j := 0) rfl
      have ce1 := kE8.cell (j := 1) rfl
      have cf1 := kF8.cell (j := 1) rfl
      have ce2 := kE8.cell (j := 2) rfl
      have cf2 := kF8.cell (j := 2) rfl
      have ce3 := kE8.cell (j := 3) rfl
      have cf3 := kF8.cell (j := 3) rfl
      have ce4 := kE8.cell (j := 4) rfl
      have cf4 := kF8.cell (j := 4) rfl
      have ce5 := kE8.cell (j := 5) rfl
      have cf5 := kF8.cell (j := 5) rfl
      have ce6 := kE8.cell (j := 6) rfl
      have cf6 := kF8.cell (j := 6) rfl
      have ce7 := kE8.cell (j := 7) rfl
      have cf7 := kF8.cell (j := 7) rfl
      have ce8 := kE8.cell (j := 8) rfl
      have cf8 := kF8.cell (j := 8) rfl
      have ce9 := kE8.cell (j := 9) rfl
      have cf9 := kF8.cell (j := 9) rfl
      have ce10 := kE8.cell (j := 10) rfl
      have cf10 := kF8.cell (j := 10) rfl
      have co0 := kO8.cell (j := 0) rfl
      have co1 := kO8.cell (j := 1) rfl
      have co2 := kO8.cell (j := 2) rfl
      have co3 := kO8.cell (j := 3) rfl
      have co4 := kO8.cell (j := 4) rfl
      go_wp2_with fail
      go_ret
      exact ⟨rfl, (s8.alloc _).bel⟩

set_option maxRecDepth 100000 in
theorem lifted (os : Os) (started : os.Started) (H : Type) (enc : TypeId × Value → H) :
    ReturnsInHanded {} Try.checked os 9 .any (Rows.entryKeepsSpec.pre6 enc Try.prog Try.f9 Rows.entryKeepsRow.domain false) (Rows.entryKeepsSpec.post enc Try.prog Try.f9 false true false false) := by
  refine returnsInHanded_of_change (C := Try.checked) own started (by kernel_rfl) Try.func9
    (ChangeSpec.witness6 (enc := enc) (C := Try.checked) false ⟨#[], #[.slice none 0 0, .int .i64 0], []⟩ 8 (by kernel_rfl) (by kernel_rfl) (by kernel_rfl) (by kernel_rfl)) ?_
  intro W base args ds gs before hval0 hW hcnd _
  have hval : ∀ (j : Nat) t v, Try.f9.params[j]? = some t → args[j]? = some v → Value.okWide Try.prog W .any base t v := hval0
  have hW' := hW
  obtain ⟨p, q, hA0, hV, rfl, hfz, hnd⟩ := hW
  have hA : DataW.TrodAll enc Try.prog W 0 (fun _ => true) true Try.f9.params.toList args.toList ds p := hA0
  rw [Try.params9] at hA hval
  obtain ⟨v0, vs0, d0, ds0, p0, q0, hargs, rfl, rfl, h0, r0⟩ := trodAll_cons hA
  obtain ⟨v1, vs1, d1, ds1, p1, q1, rfl, rfl, rfl, h1, r1⟩ := trodAll_cons r0
  obtain ⟨rfl, rfl, rfl⟩ := trodAll_nil r1
  obtain rfl : args = #[v0, v1] := by cases args; simp_all
  obtain ⟨rfl, rfl⟩ := trodVars_none hV
  obtain ⟨a0, len0, cap0, rfl⟩ := okWide_slice Try.underlying24 (hval 0 24 v0 rfl rfl)
  have k0 := h0
  have lt0 : ∀ x ∈ p0, x.block < W.heap.size := by obtain ⟨m, hm⟩ := k0; exact DataW.trod_lt m _ _ _ hm
  obtain ⟨z0, w0⟩ : ∃ zs, IsRow .u8 W a0 len0 cap0 zs := by
    obtain ⟨fuel, hf⟩ := h0
    rcases open_ints Try.underlying24 Try.underlying5 (by kernel_rfl) hf with ⟨hcs, _⟩ | ⟨x, l, c, zs, hcs, _, hl, hm, hz, _, hcell, hwz⟩
    · simp [Value.cells] at hcs
      obtain ⟨rfl, rfl, rfl⟩ := hcs
      exact ⟨[], .inl ⟨rfl, rfl, rfl, rfl⟩⟩
    · simp [Value.cells] at hcs
      obtain ⟨rfl, rfl, rfl⟩ := hcs
      exact ⟨zs, .inr ⟨_, rfl, hl, hm, by simpa using hz, hcell, hwz⟩⟩
  obtain ⟨a1, rfl, rfl, rfl, w1⟩ := open_int Try.underlying3 (hval 1 3 v1 rfl rfl) h1
  clear hA0 hval0
  refine (walk a0 len0 cap0 z0 a1 W w0 w1).mono fun e W' ⟨he, bel⟩ => ?_
  subst he
  exact ⟨_, rfl, _, _, _, [], _, [], hW', trodAll_mk1 (shut_bool Try.underlying4 _), (trodAll_cons_mk (Below.trod laidOut (by kernel_rfl) (of_decide_eq_true (by kernel_rfl)) k0 bel lt0) (trodAll_cons_mk (shut_int Try.underlying3 w1) trodAll_mk0)), rfl, bel.frame _, fun h => by cases h⟩

theorem over : Rows.entryKeepsRow.holds Try.pinned (OpenSpec.ofChange Rows.entryKeepsSpec) :=
  OpenClaim.holds_of_wide 9 Try.f9 rfl rfl rfl rfl rfl rfl rfl ⟨rfl, rfl, rfl, rfl, rfl⟩ rfl rfl rfl rfl rfl (by kernel_rfl) Try.func9 (by kernel_rfl)
    (of_decide_eq_true (by kernel_rfl)) (by unfold Func.isWrapper; first | (rw [if_pos (by decide +kernel)]; kernel_rfl) | (rw [if_neg (by decide +kernel)]; exact ⟨rfl, rfl⟩))
    (fun os started H enc _ => lifted os started H enc)

/-- The statement. -/
theorem proved : Rows.EntryKeepsSaid := over
#print axioms proved
end Go.Proofs.Ytolgbnpginifkaa.entryKeeps
