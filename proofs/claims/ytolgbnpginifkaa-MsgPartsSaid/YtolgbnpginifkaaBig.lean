/- A struct of many cells: read, written and answered whole, not cell by cell. No function of the program in sight. -/
import Derived.Test.YtolgbnpginifkaaRep
import Derived.Deep.MidRow
import Derived.Deep.CutRange
namespace Go.Proofs.Ytolgbnpginifkaa.big
open Go.RowKit blk rep

theorem setCells_append {w : World} {b : Nat} : ∀ (vs pre zs : List Value), Blk w b (pre ++ zs) → zs.length = vs.length → Blk (w.setCells b pre.length vs) b (pre ++ vs)
  | [], pre, zs, h, hl => by
    have : zs = [] := List.length_eq_zero_iff.1 (by simpa using hl)
    subst this
    exact h
  | v :: r, pre, [], h, hl => by simp at hl
  | v :: r, pre, z :: zs, h, hl => by
    have h1 := h.set pre.length v
    have e : (pre ++ z :: zs).set pre.length v = (pre ++ [v]) ++ zs := by simp
    rw [e] at h1
    have ih := setCells_append r (pre ++ [v]) zs h1 (by simpa using hl)
    rw [World.setCells]
    simpa using ih

theorem _root_.Go.Proofs.Ytolgbnpginifkaa.blk.Blk.setCells {w : World} {b : Nat} {zs : List Value} (h : Blk w b zs) (vs : List Value) (hl : zs.length = vs.length) : Blk (w.setCells b 0 vs) b vs := by
  simpa using setCells_append vs [] zs (by simpa using h) hl

theorem below_setCells {B b : Nat} {w0 : World} (hb : B ≤ b) : ∀ (vs : List Value) (o : Nat) (w : World), Below B w0 w → Below B w0 (w.setCells b o vs)
  | [], _, _, h => h
  | v :: r, o, _, h => below_setCells hb r (o + 1) _ (h.setCell (show B ≤ (⟨b, o, none⟩ : Addr).block from hb) v)

theorem kept_setCells {S : Nat → Prop} {b : Nat} {w0 : World} (hb : ¬ S b) : ∀ (vs : List Value) (o : Nat) (w : World), Kept S w0 w → Kept S w0 (w.setCells b o vs)
  | [], _, _, h => h
  | v :: r, o, _, h => kept_setCells hb r (o + 1) _ (h.setCell ⟨b, o, none⟩ v hb)

theorem _root_.Go.Proofs.Ytolgbnpginifkaa.blk.Blk.range {w : World} {b : Nat} {cs : List Value} (h : Blk w b cs) : w.rangeAt b 0 cs := fun j v hv => by
  rw [Nat.zero_add]
  exact h.cell hv
theorem _root_.Go.Proofs.Ytolgbnpginifkaa.blk.Blk.there {w : World} {b : Nat} {cs : List Value} (h : Blk w b cs) (n : Nat) (hn : n = cs.length) : w.there b 0 n := fun j hj => by
  rw [Nat.zero_add]
  refine ⟨?_, h.free j⟩
  rw [h.cell (List.getElem?_eq_getElem (by omega))]
  rfl

/-- An operation that yields a value. -/
theorem wpList_val {P : Program} {w : World} {ops : Array Oper} {rest : List Oper} {op : Oper} {a : Act} {Q : Exit → Act → World → Prop} (hgd : op.guard = none) (v : Value)
    (hrun : (execOp a.eval op).run P w = .ok (.value v) w) (h : wpList P ops Q rest (a.put op.dst v) w) : wpList P ops Q (op :: rest) a w :=
  wpList_plain hgd fun K hK => by
    unfold Oper.wp
    rw [hrun]
    exact hK _ _ h

/-- A struct of many cells is read. -/
theorem run_load_big {P : Program} {op : Oper} {a : Act} {w : World} (ty : TypeId) (x : Operand) (ho : op.op = .load ty x) (b : Nat) (hx : a.eval x = .pointer (some ⟨b, 0, none⟩)) (cs : List Value) (d : TypeDesc)
    (hB : Blk w b cs) (hu : P.underlying ty = some d) (hd : d.isRow = true) (hi : (P.info? ty).map (·.size) = some cs.length) : (execOp a.eval op).run P w = .ok (.value (.agg cs.toArray)) w := by
  unfold execOp
  simp only [ho, hx, Instr.loadAt, Instr.sureAddr, Sem.run_bind, Sem.run_pure, Result.andThen_ok, run_loadVar_mid w b 0 ty cs d hB.range hu hd hi]

section
variable {P : Program} {w : World} {ops : Array Oper} {rest : List Oper} {op : Oper} {a : Act} {Q : Exit → Act → World → Prop}
theorem wpList_alloc (hgd : op.guard = none) (ty : TypeId) (ho : op.op = .alloc ty) (v : Value) (w1 : World) (hrun : (Instr.alloc ty true (.tuple #[])).run P w = .ok v w1) (h : wpList P ops Q rest (a.put op.dst v) w1) : wpList P ops Q (op :: rest) a w :=
  wpList_plain hgd fun K hK => by
    unfold Oper.wp execOp
    simp only [ho, Sem.run_bind, hrun, Result.andThen_ok, Sem.run_pure]
    exact hK _ _ h
theorem wpList_extract (hgd : op.guard = none) (x : Operand) (i : Nat) (ho : op.op = .extract x i) (vs : Array Value) (hx : a.eval x = .tuple vs) (v : Value) (hv : vs[i]? = some v) (h : wpList P ops Q rest (a.put op.dst v) w) : wpList P ops Q (op :: rest) a w :=
  wpList_plain hgd fun K hK => by
    unfold Oper.wp execOp
    simp only [ho, hx, Instr.extract, hv, Sem.run_bind, Result.andThen_ok, Sem.run_pure]
    exact hK _ _ h
theorem wpList_move (hgd : op.guard = none) (x : Operand) (ho : op.op = .move x) (h : wpList P ops Q rest (a.put op.dst (a.eval x)) w) : wpList P ops Q (op :: rest) a w :=
  wpList_plain hgd fun K hK => by
    unfold Oper.wp execOp
    simp only [ho, Sem.run_pure]
    exact hK _ _ h
end

/-- The results: a struct in a block of its own; and one thing more. -/
theorem big_res2 {fn : Func} {t u : Tmp} {ty : TypeId} (h : fn.results = #[.cell t ty, .tmp u]) (tmps : Array Value) (P : Program) (w : World) (b : Nat) (hb : tmps.getD t undef = .pointer (some ⟨b, 0, none⟩)) (cs : List Value) (d : TypeDesc)
    (hB : Blk w b cs) (hu : P.underlying ty = some d) (hd : d.isRow = true) (hi : (P.info? ty).map (·.size) = some cs.length) :
    (results fn tmps).run P w = .ok (.tuple #[.agg cs.toArray, tmps.getD u undef]) w := by
  have hl := run_loadVar_mid (P := P) w b 0 ty cs d hB.range hu hd hi
  have hb' : tmps[t]?.getD undef = .pointer (some ⟨b, 0, none⟩) := by rw [← Array.getD_eq_getD_getElem?]; exact hb
  simp [results, h, hb', asAddr, hl]

end Go.Proofs.Ytolgbnpginifkaa.big
