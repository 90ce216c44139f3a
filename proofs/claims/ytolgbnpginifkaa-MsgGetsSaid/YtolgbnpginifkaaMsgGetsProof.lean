/- For every slice of bytes, MsgGets returns true and leaves its argument as it was. No conditions. -/
import Derived.Test.YtolgbnpginifkaaRows
import Derived.WalkKit
import Derived.ProofKit
import Derived.OpenShut
import Derived.ShutString
import Derived.ChangeOld
import Derived.Below
import Derived.Laws.Cover2
import Derived.Test.YtolgbnpginifkaaAwakeM
namespace Go.Proofs.Ytolgbnpginifkaa.msgGets
open Go.ChangeShapes Go.WideShapes Go.ChangeAt Go.RowKit
open Go.ChangeMaps (open_string shut_string)
set_option linter.unusedVariables false

theorem own : ownKnob Try.prog.godebug = none := by kernel_rfl
theorem laidOut : laidOutB Try.prog = true := by kernel_rfl

/-- What the walk is told of a slice of integers that came in: it is nil; or it leads to a row of 'cap' cells, the numbers 'zs' (the first 'len' are its elements, the rest its spare room), each fitting its kind. -/
def IsRow (k : IntKind) (w : World) (a : Option Addr) (len cap : Nat) (zs : List Int) : Prop :=
  (a = none ∧ len = 0 ∧ cap = 0 ∧ zs = []) ∨
  ∃ x, a = some x ∧ len ≤ cap ∧ cap ≤ maxLen ∧ zs.length = cap ∧ (∀ i, i < zs.length → w.cell? (x.add i) = some (.int k (zs.getD i 0))) ∧ ∀ n ∈ zs, (Lit.int k n).wf = true

open codec st put ref get blk rep ent msgd entget minto mref big
theorem getMsg_law {l : List UInt8} {x : MsD} (h : mget.getMsg l = some x) : putMs x = l ∧ PMs x := by
  unfold mget.getMsg at h
  rw [Option.bind_eq_some_iff] at h
  obtain ⟨⟨y, nx⟩, h1, h2⟩ := h
  simp only at h2
  split at h2
  · rename_i e
    simp only [Option.some.injEq] at h2
    subst h2
    obtain ⟨_, _, h3, h4⟩ := lawMs l 0 y nx h1
    refine ⟨?_, h4⟩
    rw [← h3, e]
    simp [seg]
  · cases h2

set_option maxRecDepth 100000 in
set_option maxHeartbeats 4000000 in
theorem walk (a0 : Option Addr) (len0 cap0 : Nat) (z0 : List Int) (w : World) (w0 : IsRow .u8 w a0 len0 cap0 z0) :
    Calls Try.prog 10 #[.slice a0 len0 cap0] w fun e w' => e = .returned (.bool true) ∧ Below w.heap.size w w' := by
  obtain ⟨lb, rfl, rb⟩ := Rd.ofRow w0
  clear w0
  have RB := Lib.hid rb
  clear rb
  by_cases h0 : 5000 < lb.length
  · go_enter Try.func10, Try.ntmps10
    go_wp2_with fail
    refine (awake6.awake_any _).mono ?_
    rintro r w1 ⟨rfl, hb1⟩
    go_wp2_with fail
    refine (awake6.awake_any _).mono ?_
    rintro r w2 ⟨rfl, hb2⟩
    go_wp2_with fail
    go_ret
    exact ⟨rfl, hb1.trans (hb2.mono hb1.size)⟩
  go_enter Try.func10, Try.ntmps10
  go_wp2_with fail
  refine (awake6.awake_any _).mono ?_
  rintro r w1 ⟨rfl, hb1⟩
  have hR1 := RB.out.below hb1 (Nat.le_refl _)
  go_wp2_with fail
  refine (mget.msg_any _ lb w1 hR1 (by omega)).mono ?_
  rintro r w2 ⟨hb2, hg⟩
  rename_i K1 hK1
  have hbw2 := hb1.trans (hb2.mono hb1.size)
  have kZ := Blk.new w2 mget.zMs 64
  have kT := kZ.there 31 rfl
  cases hr : mget.getMsg lb with
  | none =>
    rw [hr] at hg
    subst hg
    clear hr
    have bM := below_setCells (Nat.le_refl w2.heap.size) mget.zMs 0 _ ((Below.refl w2.heap.size w2).alloc (Nat.le_refl _) (.cells mget.zMs.toArray 64))
    have kM := kZ.setCells mget.zMs rfl
    refine hK1 _ _ ?_
    refine wpList_move rfl _ rfl ?_
    refine wpList_extract rfl _ 0 rfl _ (by rfl) _ (by rfl) ?_
    refine wpList_extract rfl _ 1 rfl _ (by rfl) _ (by rfl) ?_
    refine wpList_alloc rfl 64 rfl _ _ (awake6.alloc64 _) ?_
    refine wpList_store_mid rfl 64 _ _ (by rfl) w2.heap.size 0 mget.zMs.toArray (by rfl) (by rfl) kT (by kernel_rfl) (all_oneCell_toArray (cs := mget.zMs) (by simp [mget.zMs, Value.oneCell'])) ?_
    generalize World.setCells _ _ _ _ = wm at bM kM ⊢
    clear hK1
    go_upto_region 5 with fail
    refine wp_region_lit ?_
    refine wpList_load_mid rfl 64 _ (by rfl) w2.heap.size 0 (by rfl) mget.zMs _ kM.range Try.underlying64 rfl (by kernel_rfl) ?_
    refine wpList_val rfl (packA mget.zMs) (by go_simp; rfl) ?_
    go_wp2_with fail
    refine (awake6.same0_any _).mono ?_
    rintro r w3 ⟨rfl, hb3⟩
    go_wp2_with fail
    go_ret
    have hbm := hbw2.trans (bM.mono hbw2.size)
    exact ⟨rfl, hbm.trans (hb3.mono hbm.size)⟩
  | some x =>
    rw [hr] at hg
    obtain ⟨cs, hrep, rfl⟩ := hg
    obtain ⟨hput, hP⟩ := getMsg_law hr
    have HPUT := Lib.hid hput
    have HP := Lib.hid hP
    clear hr hput hP
    have hlen : cs.length = 31 := mget.rMs.len hrep
    have bM := below_setCells (Nat.le_refl w2.heap.size) cs 0 _ ((Below.refl w2.heap.size w2).alloc (Nat.le_refl _) (.cells mget.zMs.toArray 64))
    have kM := kZ.setCells cs (by rw [hlen]; rfl)
    have hone := mget.rMs.one hrep
    have e31 : cs.toArray.size = 31 := by simp [hlen]
    have kT' : (w2.alloc (.cells mget.zMs.toArray 64)).there w2.heap.size 0 cs.toArray.size := by
      rw [e31]
      exact kT
    have hrepM := mget.rMs.keep (fun b _ hb => bM.block b hb) hrep
    refine hK1 _ _ ?_
    refine wpList_move rfl _ rfl ?_
    refine wpList_extract rfl _ 0 rfl _ (by rfl) _ (by rfl) ?_
    refine wpList_extract rfl _ 1 rfl _ (by rfl) _ (by rfl) ?_
    refine wpList_alloc rfl 64 rfl _ _ (awake6.alloc64 _) ?_
    refine wpList_store_mid rfl 64 _ _ (by rfl) w2.heap.size 0 cs.toArray (by rfl) (by rfl) kT' (by rw [e31]; kernel_rfl) (all_oneCell_toArray hone) ?_
    generalize World.setCells _ _ _ _ = wm at bM kM hrepM ⊢
    clear hK1 kT'
    have hbm := hbw2.trans (bM.mono hbw2.size)
    go_upto_region 6 with fail
    refine wp_region_lit ?_
    refine wpList_load_mid rfl 64 _ (by rfl) w2.heap.size 0 (by rfl) cs _ kM.range Try.underlying64 rfl (by rw [hlen]; kernel_rfl) ?_
    go_wp2_with fail
    refine (msg6_any x cs _ _ hrepM HP.out (by rw [HPUT.out]; omega)).mono ?_
    rintro r w3 ⟨v3, rfl, p3⟩
    have hb3 := entref.Puts.below0 p3
    have hbw3 := hbm.trans (hb3.mono hbm.size)
    go_wp2_with fail
    refine (same_any _ _ _ _ _ p3.has.rd (RB.out.below hbw3 (Nat.le_refl _))).mono ?_
    rintro r w4 ⟨rfl, hb4⟩
    rw [decide_eq_true HPUT.out]
    go_wp2_with fail
    go_ret
    exact ⟨rfl, hbw3.trans (hb4.mono hbw3.size)⟩

set_option maxRecDepth 100000 in
theorem lifted (os : Os) (started : os.Started) (H : Type) (enc : TypeId × Value → H) :
    ReturnsInHanded {} Try.checked os 10 .any (Rows.msgGetsSpec.pre6 enc Try.prog Try.f10 Rows.msgGetsRow.domain false) (Rows.msgGetsSpec.post enc Try.prog Try.f10 false true false false) := by
  refine returnsInHanded_of_change (C := Try.checked) own started (by kernel_rfl) Try.func10
    (ChangeSpec.witness6 (enc := enc) (C := Try.checked) false ⟨#[], #[.slice none 0 0], []⟩ 8 (by kernel_rfl) (by kernel_rfl) (by kernel_rfl) (by kernel_rfl)) ?_
  intro W base args ds gs before hval0 hW hcnd _
  have hval : ∀ (j : Nat) t v, Try.f10.params[j]? = some t → args[j]? = some v → Value.okWide Try.prog W .any base t v := hval0
  have hW' := hW
  obtain ⟨p, q, hA0, hV, rfl, hfz, hnd⟩ := hW
  have hA : DataW.TrodAll enc Try.prog W 0 (fun _ => true) true Try.f10.params.toList args.toList ds p := hA0
  rw [Try.params10] at hA hval
  obtain ⟨v0, vs0, d0, ds0, p0, q0, hargs, rfl, rfl, h0, r0⟩ := trodAll_cons hA
  obtain ⟨rfl, rfl, rfl⟩ := trodAll_nil r0
  obtain rfl : args = #[v0] := by cases args; simp_all
  obtain ⟨rfl, rfl⟩ := trodVars_none hV
  obtain ⟨a0, len0, cap0, rfl⟩ := okWide_slice Try.underlying24 (hval 0 24 v0 rfl rfl)
  have k0 := h0
  have lt0 : ∀ x ∈ p0, x.block < W.heap.size := by obtain ⟨m, hm⟩ := k0; exact DataW.trod_lt m _ _ _ hm
  obtain ⟨z0, w0⟩ : ∃ zs, IsRow .u8 W a0 len0 cap0 zs := by
    obtain ⟨fuel, hf⟩ := h0
    rcases open_ints Try.underlying24 Try.underlying5 (by kernel_rfl) hf with ⟨hcs, _⟩ | ⟨x, l, c, zs, hcs, _, hl, hm, hz, _, hcell, hwz⟩
    · simp [Value.cells] at hcs
      obtain ⟨rfl, rfl, rfl⟩ := hcs
      exact ⟨[], .inl ⟨rfl, rfl, rfl, rfl⟩⟩
    · simp [Value.cells] at hcs
      obtain ⟨rfl, rfl, rfl⟩ := hcs
      exact ⟨zs, .inr ⟨_, rfl, hl, hm, by simpa using hz, hcell, hwz⟩⟩
  clear hA0 hval0
  refine (walk a0 len0 cap0 z0 W w0).mono fun e W' ⟨he, bel⟩ => ?_
  subst he
  exact ⟨_, rfl, _, _, _, [], _, [], hW', trodAll_mk1 (shut_bool Try.underlying4 _), (trodAll_cons_mk (Below.trod laidOut (by kernel_rfl) (of_decide_eq_true (by kernel_rfl)) k0 bel lt0) trodAll_mk0), rfl, bel.frame _, fun h => by cases h⟩

theorem over : Rows.msgGetsRow.holds Try.pinned (OpenSpec.ofChange Rows.msgGetsSpec) :=
  OpenClaim.holds_of_wide 10 Try.f10 rfl rfl rfl rfl rfl rfl rfl ⟨rfl, rfl, rfl, rfl, rfl⟩ rfl rfl rfl rfl rfl (by kernel_rfl) Try.func10 (by kernel_rfl)
    (of_decide_eq_true (by kernel_rfl)) (by unfold Func.isWrapper; first | (rw [if_pos (by decide +kernel)]; kernel_rfl) | (rw [if_neg (by decide +kernel)]; exact ⟨rfl, rfl⟩))
    (fun os started H enc _ => lifted os started H enc)

/-- The statement. -/
theorem proved : Rows.MsgGetsSaid := over
#print axioms proved
end Go.Proofs.Ytolgbnpginifkaa.msgGets
