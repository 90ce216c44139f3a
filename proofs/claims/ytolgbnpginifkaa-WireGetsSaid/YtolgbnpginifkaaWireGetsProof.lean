/- For every slice of bytes and every place, WireGets returns true and leaves its arguments as they were. No conditions. -/
import Derived.Test.YtolgbnpginifkaaRows
import Derived.WalkKit
import Derived.ProofKit
import Derived.OpenShut
import Derived.ShutString
import Derived.ChangeOld
import Derived.Below
import Derived.Laws.Cover2
import Derived.Test.YtolgbnpginifkaaAwakeC
namespace Go.Proofs.Ytolgbnpginifkaa.wireGets
open Go.ChangeShapes Go.WideShapes Go.ChangeAt Go.RowKit
open Go.ChangeMaps (open_string shut_string)
set_option linter.unusedVariables false

theorem own : ownKnob Try.prog.godebug = none := by kernel_rfl
theorem laidOut : laidOutB Try.prog = true := by kernel_rfl

/-- What the walk is told of a slice of integers that came in: it is nil; or it leads to a row of 'cap' cells, the numbers 'zs' (the first 'len' are its elements, the rest its spare room), each fitting its kind. -/
def IsRow (k : IntKind) (w : World) (a : Option Addr) (len cap : Nat) (zs : List Int) : Prop :=
  (a = none ∧ len = 0 ∧ cap = 0 ∧ zs = []) ∨
  ∃ x, a = some x ∧ len ≤ cap ∧ cap ≤ maxLen ∧ zs.length = cap ∧ (∀ i, i < zs.length → w.cell? (x.add i) = some (.int k (zs.getD i 0))) ∧ ∀ n ∈ zs, (Lit.int k n).wf = true

open codec st put ref get
theorem vI_parts (o : Option (Int × Nat)) : ∃ n x ok, vI o = .tuple #[.int .i64 n, .int .i64 x, .bool ok] := by
  cases o with
  | none => exact ⟨_, _, _, rfl⟩
  | some p => exact ⟨_, _, _, rfl⟩
theorem vT_parts (o : Option (List UInt8 × Nat)) : ∃ n x ok, vT o = .tuple #[.string n, .int .i64 x, .bool ok] := by
  cases o with
  | none => exact ⟨_, _, _, rfl⟩
  | some p => exact ⟨_, _, _, rfl⟩
theorem vV_parts (l : List UInt8) (a : Nat) : ∃ n m x ok, vV (getV l a) = .tuple #[.complex .f64 n m, .int .i64 x, .bool ok] ∧ (FloatKind.f64.format.order n n == some Ordering.eq) = true ∧ (FloatKind.f64.format.order m m == some Ordering.eq) = true := by
  cases h : getV l a with
  | none => exact ⟨_, _, _, _, rfl, ver.eq_refl_F 0 (by omega) (by omega), ver.eq_refl_F 0 (by omega) (by omega)⟩
  | some p =>
    obtain ⟨⟨e, n⟩, x⟩ := p
    obtain ⟨_, _, _, h1, h2⟩ := getV_seg h
    have b1 := fit_bounds h1
    have b2 := fit_bounds h2
    exact ⟨_, _, _, _, rfl, ver.eq_refl_F e b1.1 (by omega), ver.eq_refl_F n b2.1 (by omega)⟩

set_option maxRecDepth 100000 in
set_option maxHeartbeats 1000000 in
theorem walk (a0 : Option Addr) (len0 cap0 : Nat) (z0 : List Int) (a1 : Int) (w : World) (w0 : IsRow .u8 w a0 len0 cap0 z0) (w1 : (Lit.int .i64 a1).wf = true) :
    Calls Try.prog 7 #[.slice a0 len0 cap0, .int .i64 a1] w fun e w' => e = .returned (.bool true) ∧ Below w.heap.size w w' := by
  have i1 := bounds_i64 w1
  obtain ⟨lb, rfl, rb⟩ := Rd.ofRow w0
  clear w0
  have RB := Lib.hid rb
  by_cases h0 : 5000 < lb.length
  · clear rb
    go_enter Try.func7, Try.ntmps7
    go_wp2_with fail
    refine (awake3.awake_any _).mono ?_
    rintro r w' ⟨rfl, hb⟩
    go_wp2_with fail
    go_ret
    exact ⟨rfl, hb⟩
  by_cases h1 : a1 < 0
  · clear rb
    go_enter Try.func7, Try.ntmps7
    go_wp2_with fail
    refine (awake3.awake_any _).mono ?_
    rintro r w' ⟨rfl, hb⟩
    go_wp2_with fail
    go_ret
    exact ⟨rfl, hb⟩
  by_cases h2 : 6000 < a1
  · clear rb
    go_enter Try.func7, Try.ntmps7
    go_wp2_with fail
    refine (awake3.awake_any _).mono ?_
    rintro r w' ⟨rfl, hb⟩
    go_wp2_with fail
    go_ret
    exact ⟨rfl, hb⟩
  obtain ⟨k, rfl⟩ : ∃ k : Nat, a1 = k := ⟨a1.toNat, by omega⟩
  obtain ⟨n, x, ok, eI⟩ := vI_parts (getI lb k)
  obtain ⟨s, u, yes, eT⟩ := vT_parts (getT lb k)
  obtain ⟨c1, c2, p, got, eV, q1, q2⟩ := vV_parts lb k
  have EI := Lib.hid eI
  have ET := Lib.hid eT
  have EV := Lib.hid eV
  clear eI eT eV
  by_cases hlt : k < lb.length
  · obtain ⟨c, hc⟩ : ∃ c, lb[k]? = some c := ⟨_, List.getElem?_eq_getElem hlt⟩
    obtain ⟨a0', cap', e1, _, _, f1⟩ := rb
    simp only [Value.slice.injEq] at e1
    obtain ⟨rfl, _, rfl⟩ := e1
    obtain ⟨y, rfl, g⟩ := f1 _ c hc
    unfold B at g
    clear f1
    by_cases h1 : c.toNat ≤ 1
    · by_cases h2 : c.toNat = 1
      · have EB : Hid (vB (getB lb k) = .tuple #[.bool true, .int .i64 ((k : Int) + 1), .bool true]) := Lib.hid (by unfold getB; rw [hc]; simp only; rw [if_pos h1, vB, h2]; rfl)
        have hq : ((c.toNat : Int) == 1) = true := by simp [h2]
        clear hc h2
        go_enter Try.func7, Try.ntmps7
        go_wp2_with fail
        refine (get.int_any _ lb k _ RB.out (by omega) (by omega)).mono ?_
        rintro r w' ⟨rfl, rfl⟩
        rw [EI.out]
        go_wp2_with fail
        refine (rget.int_any _ lb k _ RB.out (by omega) (by omega)).mono ?_
        rintro r w' ⟨rfl, rfl⟩
        rw [EI.out]
        go_wp2_with fail
        refine (get.text_any _ lb k _ RB.out (by omega) (by omega)).mono ?_
        rintro r w' ⟨rfl, rfl⟩
        rw [ET.out]
        go_wp2_with fail
        refine (rget.text_any _ lb k _ RB.out (by omega) (by omega)).mono ?_
        rintro r w' ⟨rfl, rfl⟩
        rw [ET.out]
        go_wp2_with fail
        refine (get.ver_any _ lb k _ RB.out (by omega) (by omega)).mono ?_
        rintro r w' ⟨rfl, rfl⟩
        rw [EV.out]
        go_wp2_with fail
        refine (rget.ver_any _ lb k _ RB.out (by omega) (by omega)).mono ?_
        rintro r w' ⟨rfl, rfl⟩
        rw [EV.out]
        go_wp2_with fail
        refine (get.bool_any _ lb k _ RB.out (by omega) (by omega)).mono ?_
        rintro r w' ⟨rfl, rfl⟩
        rw [EB.out]
        go_wp2_with fail
        refine (awake3.awake_any _).mono ?_
        rintro r w' ⟨rfl, hb⟩
        go_wp2_with fail
        go_ret
        exact ⟨by simp, hb⟩
      · have EB : Hid (vB (getB lb k) = .tuple #[.bool false, .int .i64 ((k : Int) + 1), .bool true]) := Lib.hid (by unfold getB; rw [hc]; simp only; rw [if_pos h1, vB]; simp only; rw [show (c.toNat == 1) = false by simp [h2]]; rfl)
        have hq : ((c.toNat : Int) == 1) = false := by simp; omega
        clear hc h2
        go_enter Try.func7, Try.ntmps7
        go_wp2_with fail
        refine (get.int_any _ lb k _ RB.out (by omega) (by omega)).mono ?_
        rintro r w' ⟨rfl, rfl⟩
        rw [EI.out]
        go_wp2_with fail
        refine (rget.int_any _ lb k _ RB.out (by omega) (by omega)).mono ?_
        rintro r w' ⟨rfl, rfl⟩
        rw [EI.out]
        go_wp2_with fail
        refine (get.text_any _ lb k _ RB.out (by omega) (by omega)).mono ?_
        rintro r w' ⟨rfl, rfl⟩
        rw [ET.out]
        go_wp2_with fail
        refine (rget.text_any _ lb k _ RB.out (by omega) (by omega)).mono ?_
        rintro r w' ⟨rfl, rfl⟩
        rw [ET.out]
        go_wp2_with fail
        refine (get.ver_any _ lb k _ RB.out (by omega) (by omega)).mono ?_
        rintro r w' ⟨rfl, rfl⟩
        rw [EV.out]
        go_wp2_with fail
        refine (rget.ver_any _ lb k _ RB.out (by omega) (by omega)).mono ?_
        rintro r w' ⟨rfl, rfl⟩
        rw [EV.out]
        go_wp2_with fail
        refine (get.bool_any _ lb k _ RB.out (by omega) (by omega)).mono ?_
        rintro r w' ⟨rfl, rfl⟩
        rw [EB.out]
        go_wp2_with fail
        refine (awake3.awake_any _).mono ?_
        rintro r w' ⟨rfl, hb⟩
        go_wp2_with fail
        go_ret
        exact ⟨by simp, hb⟩
    · have EB : Hid (vB (getB lb k) = .tuple #[.bool false, .int .i64 0, .bool false]) := Lib.hid (by unfold getB; rw [hc]; simp only; rw [if_neg h1]; rfl)
      clear hc
      go_enter Try.func7, Try.ntmps7
      go_wp2_with fail
      refine (get.int_any _ lb k _ RB.out (by omega) (by omega)).mono ?_
      rintro r w' ⟨rfl, rfl⟩
      rw [EI.out]
      go_wp2_with fail
      refine (rget.int_any _ lb k _ RB.out (by omega) (by omega)).mono ?_
      rintro r w' ⟨rfl, rfl⟩
      rw [EI.out]
      go_wp2_with fail
      refine (get.text_any _ lb k _ RB.out (by omega) (by omega)).mono ?_
      rintro r w' ⟨rfl, rfl⟩
      rw [ET.out]
      go_wp2_with fail
      refine (rget.text_any _ lb k _ RB.out (by omega) (by omega)).mono ?_
      rintro r w' ⟨rfl, rfl⟩
      rw [ET.out]
      go_wp2_with fail
      refine (get.ver_any _ lb k _ RB.out (by omega) (by omega)).mono ?_
      rintro r w' ⟨rfl, rfl⟩
      rw [EV.out]
      go_wp2_with fail
      refine (rget.ver_any _ lb k _ RB.out (by omega) (by omega)).mono ?_
      rintro r w' ⟨rfl, rfl⟩
      rw [EV.out]
      go_wp2_with fail
      refine (get.bool_any _ lb k _ RB.out (by omega) (by omega)).mono ?_
      rintro r w' ⟨rfl, rfl⟩
      rw [EB.out]
      go_wp2_with fail
      refine (awake3.awake_any _).mono ?_
      rintro r w' ⟨rfl, hb⟩
      go_wp2_with fail
      go_ret
      exact ⟨by simp, hb⟩
  · have EB : Hid (vB (getB lb k) = .tuple #[.bool false, .int .i64 0, .bool false]) := Lib.hid (by unfold getB; rw [List.getElem?_eq_none (by omega)]; rfl)
    clear rb
    go_enter Try.func7, Try.ntmps7
    go_wp2_with fail
    refine (get.int_any _ lb k _ RB.out (by omega) (by omega)).mono ?_
    rintro r w' ⟨rfl, rfl⟩
    rw [EI.out]
    go_wp2_with fail
    refine (rget.int_any _ lb k _ RB.out (by omega) (by omega)).mono ?_
    rintro r w' ⟨rfl, rfl⟩
    rw [EI.out]
    go_wp2_with fail
    refine (get.text_any _ lb k _ RB.out (by omega) (by omega)).mono ?_
    rintro r w' ⟨rfl, rfl⟩
    rw [ET.out]
    go_wp2_with fail
    refine (rget.text_any _ lb k _ RB.out (by omega) (by omega)).mono ?_
    rintro r w' ⟨rfl, rfl⟩
    rw [ET.out]
    go_wp2_with fail
    refine (get.ver_any _ lb k _ RB.out (by omega) (by omega)).mono ?_
    rintro r w' ⟨rfl, rfl⟩
    rw [EV.out]
    go_wp2_with fail
    refine (rget.ver_any _ lb k _ RB.out (by omega) (by omega)).mono ?_
    rintro r w' ⟨rfl, rfl⟩
    rw [EV.out]
    go_wp2_with fail
    refine (get.bool_any _ lb k _ RB.out (by omega) (by omega)).mono ?_
    rintro r w' ⟨rfl, rfl⟩
    rw [EB.out]
    go_wp2_with fail
    refine (awake3.awake_any _).mono ?_
    rintro r w' ⟨rfl, hb⟩
    go_wp2_with fail
    go_ret
    exact ⟨by simp, hb⟩

set_option maxRecDepth 100000 in
theorem lifted (os : Os) (started : os.Started) (H : Type) (enc : TypeId × Value → H) :
    ReturnsInHanded {} Try.checked os 7 .any (Rows.wireGetsSpec.pre6 enc Try.prog Try.f7 Rows.wireGetsRow.domain false) (Rows.wireGetsSpec.post enc Try.prog Try.f7 false true false false) := by
  refine returnsInHanded_of_change (C := Try.checked) own started (by kernel_rfl) Try.func7
    (ChangeSpec.witness6 (enc := enc) (C := Try.checked) false ⟨#[], #[.slice none 0 0, .int .i64 0], []⟩ 8 (by kernel_rfl) (by kernel_rfl) (by kernel_rfl) (by kernel_rfl)) ?_
  intro W base args ds gs before hval0 hW hcnd _
  have hval : ∀ (j : Nat) t v, Try.f7.params[j]? = some t → args[j]? = some v → Value.okWide Try.prog W .any base t v := hval0
  have hW' := hW
  obtain ⟨p, q, hA0, hV, rfl, hfz, hnd⟩ := hW
  have hA : DataW.TrodAll enc Try.prog W 0 (fun _ => true) true Try.f7.params.toList args.toList ds p := hA0
  rw [Try.params7] at hA hval
  obtain ⟨v0, vs0, d0, ds0, p0, q0, hargs, rfl, rfl, h0, r0⟩ := trodAll_cons hA
  obtain ⟨v1, vs1, d1, ds1, p1, q1, rfl, rfl, rfl, h1, r1⟩ := trodAll_cons r0
  obtain ⟨rfl, rfl, rfl⟩ := trodAll_nil r1
  obtain rfl : args = #[v0, v1] := by cases args; simp_all
  obtain ⟨rfl, rfl⟩ := trodVars_none hV
  obtain ⟨a0, len0, cap0, rfl⟩ := okWide_slice Try.underlying24 (hval 0 24 v0 rfl rfl)
  have k0 := h0
  have lt0 : ∀ x ∈ p0, x.block < W.heap.size := by obtain ⟨m, hm⟩ := k0; exact DataW.trod_lt m _ _ _ hm
  obtain ⟨z0, w0⟩ : ∃ zs, IsRow .u8 W a0 len0 cap0 zs := by
    obtain ⟨fuel, hf⟩ := h0
    rcases open_ints Try.underlying24 Try.underlying5 (by kernel_rfl) hf with ⟨hcs, _⟩ | ⟨x, l, c, zs, hcs, _, hl, hm, hz, _, hcell, hwz⟩
    · simp [Value.cells] at hcs
      obtain ⟨rfl, rfl, rfl⟩ := hcs
      exact ⟨[], .inl ⟨rfl, rfl, rfl, rfl⟩⟩
    · simp [Value.cells] at hcs
      obtain ⟨rfl, rfl, rfl⟩ := hcs
      exact ⟨zs, .inr ⟨_, rfl, hl, hm, by simpa using hz, hcell, hwz⟩⟩
  obtain ⟨a1, rfl, rfl, rfl, w1⟩ := open_int Try.underlying3 (hval 1 3 v1 rfl rfl) h1
  clear hA0 hval0
  refine (walk a0 len0 cap0 z0 a1 W w0 w1).mono fun e W' ⟨he, bel⟩ => ?_
  subst he
  exact ⟨_, rfl, _, _, _, [], _, [], hW', trodAll_mk1 (shut_bool Try.underlying4 _), (trodAll_cons_mk (Below.trod laidOut (by kernel_rfl) (of_decide_eq_true (by kernel_rfl)) k0 bel lt0) (trodAll_cons_mk (shut_int Try.underlying3 w1) trodAll_mk0)), rfl, bel.frame _, fun h => by cases h⟩

theorem over : Rows.wireGetsRow.holds Try.pinned (OpenSpec.ofChange Rows.wireGetsSpec) :=
  OpenClaim.holds_of_wide 7 Try.f7 rfl rfl rfl rfl rfl rfl rfl ⟨rfl, rfl, rfl, rfl, rfl⟩ rfl rfl rfl rfl rfl (by kernel_rfl) Try.func7 (by kernel_rfl)
    (of_decide_eq_true (by kernel_rfl)) (by unfold Func.isWrapper; first | (rw [if_pos (by decide +kernel)]; kernel_rfl) | (rw [if_neg (by decide +kernel)]; exact ⟨rfl, rfl⟩))
    (fun os started H enc _ => lifted os started H enc)

/-- The statement. -/
theorem proved : Rows.WireGetsSaid := over
#print axioms proved
end Go.Proofs.Ytolgbnpginifkaa.wireGets
