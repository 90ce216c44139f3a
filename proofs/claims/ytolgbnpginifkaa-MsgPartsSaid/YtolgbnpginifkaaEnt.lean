/- The plain law of operations' and entries' bytes. No program in sight. -/
import Derived.Test.YtolgbnpginifkaaCodec
namespace Go.Proofs.Ytolgbnpginifkaa.ent
open codec

structure OpD where
  kind : Int
  key : List UInt8
  val : List UInt8
  old : List UInt8
  has : Bool

structure EnD where
  ep : Int
  no : Int
  kind : Int
  key : List UInt8
  val : List UInt8
  write : Bool
  del : Bool
  sess : Int
  num : Int
  code : Int
  res : List UInt8
  has : Bool

def putO (o : OpD) : List UInt8 := putI o.kind ++ putT o.key ++ putT o.val ++ putT o.old ++ putB o.has
def putE (e : EnD) : List UInt8 := putV e.ep e.no ++ putI e.kind ++ putT e.key ++ putT e.val ++ putB e.write ++ putB e.del ++ putI e.sess ++ putI e.num ++ putI e.code ++ putT e.res ++ putB e.has

def getO (l : List UInt8) (a : Nat) : Option (OpD × Nat) :=
  (getI l a).bind fun x0 => (getT l x0.2).bind fun x1 => (getT l x1.2).bind fun x2 => (getT l x2.2).bind fun x3 => (getB l x3.2).bind fun x4 =>
    some (⟨x0.1, x1.1, x2.1, x3.1, x4.1⟩, x4.2)
def getE (l : List UInt8) (a : Nat) : Option (EnD × Nat) :=
  (getV l a).bind fun x0 => (getI l x0.2).bind fun x1 => (getT l x1.2).bind fun x2 => (getT l x2.2).bind fun x3 => (getB l x3.2).bind fun x4 => (getB l x4.2).bind fun x5 =>
    (getI l x5.2).bind fun x6 => (getI l x6.2).bind fun x7 => (getI l x7.2).bind fun x8 => (getT l x8.2).bind fun x9 => (getB l x9.2).bind fun x10 =>
    some (⟨x0.1.1, x0.1.2, x1.1, x2.1, x3.1, x4.1, x5.1, x6.1, x7.1, x8.1, x9.1, x10.1⟩, x10.2)

theorem getO_seg {l : List UInt8} {a nx : Nat} {o : OpD} (h : getO l a = some (o, nx)) : a < nx ∧ nx ≤ l.length ∧ seg l a nx = putO o ∧ -9223372036854775808 ≤ o.kind ∧ o.kind ≤ 9223372036854775807 ∧ o.key.length ≤ 65536 ∧ o.val.length ≤ 65536 ∧ o.old.length ≤ 65536 := by
  unfold getO at h
  simp only [Option.bind_eq_some_iff] at h
  obtain ⟨⟨x0, p0⟩, h0, ⟨x1, p1⟩, h1, ⟨x2, p2⟩, h2, ⟨x3, p3⟩, h3, ⟨x4, p4⟩, h4, e⟩ := h
  simp only [Option.some.injEq, Prod.mk.injEq] at e
  obtain ⟨rfl, rfl⟩ := e
  obtain ⟨a0, b0, c0, d0, e0⟩ := getI_seg h0
  obtain ⟨a1, b1, c1, d1⟩ := getT_seg h1
  obtain ⟨a2, b2, c2, d2⟩ := getT_seg h2
  obtain ⟨a3, b3, c3, d3⟩ := getT_seg h3
  obtain ⟨a4, b4, c4⟩ := getB_seg h4
  simp only at a1 a2 a3 a4 c1 c2 c3 c4
  refine ⟨by omega, b4, ?_, d0, e0, d1, d2, d3⟩
  unfold putO
  rw [seg_append (b := p3) (by omega) (by omega), seg_append (b := p2) (by omega) (by omega), seg_append (b := p1) (by omega) (by omega), seg_append (b := p0) (by omega) (by omega), c0, c1, c2, c3, c4]

theorem getE_seg {l : List UInt8} {a nx : Nat} {o : EnD} (h : getE l a = some (o, nx)) : a < nx ∧ nx ≤ l.length ∧ seg l a nx = putE o ∧ fit o.ep = true ∧ fit o.no = true ∧
    (-9223372036854775808 ≤ o.kind ∧ o.kind ≤ 9223372036854775807) ∧ (-9223372036854775808 ≤ o.sess ∧ o.sess ≤ 9223372036854775807) ∧ (-9223372036854775808 ≤ o.num ∧ o.num ≤ 9223372036854775807) ∧ (-9223372036854775808 ≤ o.code ∧ o.code ≤ 9223372036854775807) ∧
    o.key.length ≤ 65536 ∧ o.val.length ≤ 65536 ∧ o.res.length ≤ 65536 := by
  unfold getE at h
  simp only [Option.bind_eq_some_iff] at h
  obtain ⟨⟨⟨x0, y0⟩, p0⟩, h0, ⟨x1, p1⟩, h1, ⟨x2, p2⟩, h2, ⟨x3, p3⟩, h3, ⟨x4, p4⟩, h4, ⟨x5, p5⟩, h5, ⟨x6, p6⟩, h6, ⟨x7, p7⟩, h7, ⟨x8, p8⟩, h8, ⟨x9, p9⟩, h9, ⟨x10, p10⟩, h10, e⟩ := h
  simp only [Option.some.injEq, Prod.mk.injEq] at e
  obtain ⟨rfl, rfl⟩ := e
  obtain ⟨a0, b0, c0, d0, e0⟩ := getV_seg h0
  obtain ⟨a1, b1, c1, d1, e1⟩ := getI_seg h1
  obtain ⟨a2, b2, c2, d2⟩ := getT_seg h2
  obtain ⟨a3, b3, c3, d3⟩ := getT_seg h3
  obtain ⟨a4, b4, c4⟩ := getB_seg h4
  obtain ⟨a5, b5, c5⟩ := getB_seg h5
  obtain ⟨a6, b6, c6, d6, e6⟩ := getI_seg h6
  obtain ⟨a7, b7, c7, d7, e7⟩ := getI_seg h7
  obtain ⟨a8, b8, c8, d8, e8⟩ := getI_seg h8
  obtain ⟨a9, b9, c9, d9⟩ := getT_seg h9
  obtain ⟨a10, b10, c10⟩ := getB_seg h10
  simp only at a1 a2 a3 a4 a5 a6 a7 a8 a9 a10 c1 c2 c3 c4 c5 c6 c7 c8 c9 c10
  refine ⟨by omega, b10, ?_, d0, e0, ⟨d1, e1⟩, ⟨d6, e6⟩, ⟨d7, e7⟩, ⟨d8, e8⟩, d2, d3, d9⟩
  unfold putE
  rw [seg_append (b := p9) (by omega) (by omega), seg_append (b := p8) (by omega) (by omega), seg_append (b := p7) (by omega) (by omega), seg_append (b := p6) (by omega) (by omega), seg_append (b := p5) (by omega) (by omega), seg_append (b := p4) (by omega) (by omega),
    seg_append (b := p3) (by omega) (by omega), seg_append (b := p2) (by omega) (by omega), seg_append (b := p1) (by omega) (by omega), seg_append (b := p0) (by omega) (by omega), c0, c1, c2, c3, c4, c5, c6, c7, c8, c9, c10]
end Go.Proofs.Ytolgbnpginifkaa.ent
