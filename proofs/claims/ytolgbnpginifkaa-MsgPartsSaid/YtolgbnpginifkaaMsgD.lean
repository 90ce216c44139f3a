/- The plain law of members', views', seen calls', images' and messages' bytes. No program in sight. -/
import Derived.Test.YtolgbnpginifkaaEnt
namespace Go.Proofs.Ytolgbnpginifkaa.msgd
open codec ent

def getN {α : Type} (g : List UInt8 → Nat → Option (α × Nat)) (l : List UInt8) : Nat → Nat → Option (List α × Nat)
  | 0, p => some ([], p)
  | n + 1, p => (g l p).bind fun x => (getN g l n x.2).map fun r => (x.1 :: r.1, r.2)
def getL {α : Type} (g : List UInt8 → Nat → Option (α × Nat)) (l : List UInt8) (a : Nat) : Option (List α × Nat) :=
  (getI l a).bind fun c => if c.1 < 0 ∨ 4096 < c.1 then none else getN g l c.1.toNat c.2
def putL {α : Type} (f : α → List UInt8) (xs : List α) : List UInt8 := putI xs.length ++ xs.flatMap f
def putV2 (v : Int × Int) : List UInt8 := putV v.1 v.2
def nums (l : List Int) : List UInt8 := l.flatMap putI

/-- What this reader takes is what that writer puts. -/
def Law {α : Type} (g : List UInt8 → Nat → Option (α × Nat)) (f : α → List UInt8) (P : α → Prop) : Prop :=
  ∀ (l : List UInt8) (a : Nat) (x : α) (nx : Nat), g l a = some (x, nx) → a < nx ∧ nx ≤ l.length ∧ seg l a nx = f x ∧ P x

theorem seg_self (l : List UInt8) (a : Nat) : seg l a a = [] := by simp [seg]

theorem getN_law {α : Type} {g : List UInt8 → Nat → Option (α × Nat)} {f : α → List UInt8} {P : α → Prop} (h : Law g f P) (l : List UInt8) :
    ∀ (n a : Nat) (xs : List α) (nx : Nat), getN g l n a = some (xs, nx) → a + n ≤ nx ∧ (nx ≤ l.length ∨ n = 0) ∧ seg l a nx = xs.flatMap f ∧ xs.length = n ∧ ∀ x ∈ xs, P x
  | 0, a, xs, nx, e => by
    simp only [getN, Option.some.injEq, Prod.mk.injEq] at e
    obtain ⟨rfl, rfl⟩ := e
    exact ⟨Nat.le_refl _, .inr rfl, by simp [seg_self], rfl, by simp⟩
  | n + 1, a, xs, nx, e => by
    simp only [getN, Option.bind_eq_some_iff, Option.map_eq_some_iff] at e
    obtain ⟨⟨x, p⟩, hx, ⟨r, q⟩, hr, e⟩ := e
    simp only [Prod.mk.injEq] at e
    obtain ⟨rfl, rfl⟩ := e
    obtain ⟨a1, a2, a3, a4⟩ := h l a x p hx
    obtain ⟨b1, b2, b3, b4, b5⟩ := getN_law h l n p r q hr
    refine ⟨by omega, ?_, ?_, by simp [b4], ?_⟩
    · rcases b2 with b2 | rfl
      · exact .inl b2
      · simp only [getN, Option.some.injEq, Prod.mk.injEq] at hr
        obtain ⟨-, rfl⟩ := hr
        exact .inl a2
    · rw [seg_append (b := p) (by omega) (by omega), a3, b3]
      rfl
    · intro y hy
      rcases List.mem_cons.1 hy with rfl | hy
      · exact a4
      · exact b5 y hy

def In (n : Int) : Prop := -9223372036854775808 ≤ n ∧ n ≤ 9223372036854775807
def Fit2 (v : Int × Int) : Prop := fit v.1 = true ∧ fit v.2 = true
def PO (o : OpD) : Prop := In o.kind ∧ o.key.length ≤ 65536 ∧ o.val.length ≤ 65536 ∧ o.old.length ≤ 65536
def PE (o : EnD) : Prop := fit o.ep = true ∧ fit o.no = true ∧ In o.kind ∧ In o.sess ∧ In o.num ∧ In o.code ∧ o.key.length ≤ 65536 ∧ o.val.length ≤ 65536 ∧ o.res.length ≤ 65536

theorem lawI : Law getI putI In := fun l a x nx h => by
  obtain ⟨a0, b0, c0, d0, e0⟩ := getI_seg h
  exact ⟨a0, b0, c0, d0, e0⟩
theorem lawT : Law getT putT (fun s => s.length ≤ 65536) := fun _ _ _ _ h => getT_seg h
theorem lawB : Law getB putB (fun _ => True) := fun l a x nx h => by
  obtain ⟨a0, b0, c0⟩ := getB_seg h
  exact ⟨a0, b0, c0, trivial⟩
theorem lawV : Law getV putV2 Fit2 := fun l a x nx h => by
  obtain ⟨x0, x1⟩ := x
  obtain ⟨a0, b0, c0, d0, e0⟩ := getV_seg h
  exact ⟨a0, b0, c0, d0, e0⟩
theorem lawO : Law getO putO PO := fun l a x nx h => by
  obtain ⟨a0, b0, c0, d0, e0, f0, g0, h0⟩ := getO_seg h
  exact ⟨a0, b0, c0, ⟨d0, e0⟩, f0, g0, h0⟩
theorem lawE : Law getE putE PE := fun l a x nx h => by
  obtain ⟨a0, b0, c0, d0, e0, f0, g0, h0, i0, j0, k0, l0⟩ := getE_seg h
  exact ⟨a0, b0, c0, d0, e0, f0, g0, h0, i0, j0, k0, l0⟩
theorem lawN : Law (getN getI · 12) nums (fun l => l.length = 12 ∧ ∀ x ∈ l, In x) := fun l a x nx h => by
  obtain ⟨a0, b0, c0, d0, e0⟩ := getN_law lawI l 12 a x nx h
  exact ⟨by omega, by omega, c0, d0, e0⟩
theorem getL_law {α : Type} {g : List UInt8 → Nat → Option (α × Nat)} {f : α → List UInt8} {P : α → Prop} (h : Law g f P) : Law (getL g) (putL f) (fun xs => xs.length ≤ 4096 ∧ ∀ x ∈ xs, P x) := fun l a xs nx e => by
  simp only [getL, Option.bind_eq_some_iff] at e
  obtain ⟨⟨c, p⟩, hc, e⟩ := e
  split at e
  · cases e
  · rename_i hb
    simp only at hb e
    obtain ⟨a0, b0, c0, d0⟩ := lawI l a c p hc
    obtain ⟨a1, b1, c1, d1, e1⟩ := getN_law h l _ _ _ _ e
    have hn : nx ≤ l.length := by
      rcases b1 with b1 | b1
      · exact b1
      · rw [b1] at e
        simp only [getN, Option.some.injEq, Prod.mk.injEq] at e
        omega
    refine ⟨by omega, hn, ?_, by omega, e1⟩
    rw [seg_append (b := p) (by omega) (by omega), c0, c1]
    unfold putL
    rw [d1, Int.toNat_of_nonneg (by omega)]

/-- A round more of a list that is read. -/
theorem getN_none {α : Type} {g : List UInt8 → Nat → Option (α × Nat)} {l : List UInt8} {n p : Nat} (h : g l p = none) : getN g l (n + 1) p = none := by simp [getN, h]
theorem getN_some {α : Type} {g : List UInt8 → Nat → Option (α × Nat)} {l : List UInt8} {n p q : Nat} {x : α} (h : g l p = some (x, q)) : getN g l (n + 1) p = (getN g l n q).map fun r => (x :: r.1, r.2) := by simp [getN, h]

structure MemD where
  node : Int
  boot : Int

def putMem (x : MemD) : List UInt8 := putI x.node ++ putI x.boot
def getMem (l : List UInt8) (a : Nat) : Option (MemD × Nat) :=
  (getI l a).bind fun x0 => (getI l x0.2).bind fun x1 => 
    some (⟨x0.1, x1.1⟩, x1.2)
def PMem (x : MemD) : Prop := In x.node ∧ In x.boot
theorem lawMem : Law getMem putMem PMem := fun l a x nx h => by
  unfold getMem at h
  simp only [Option.bind_eq_some_iff] at h
  obtain ⟨⟨x0, p0⟩, h0, ⟨x1, p1⟩, h1, e⟩ := h
  simp only [Option.some.injEq, Prod.mk.injEq] at e
  obtain ⟨rfl, rfl⟩ := e
  obtain ⟨a0, b0, c0, d0⟩ := lawI l _ _ _ h0
  obtain ⟨a1, b1, c1, d1⟩ := lawI l _ _ _ h1
  simp only at a1 c1
  refine ⟨by omega, b1, ?_, d0, d1⟩
  unfold putMem
  rw [seg_append (b := p0) (by omega) (by omega), c0, c1]

structure VwD where
  shard : Int
  epoch : Int
  gen : Int
  phase : Int
  chain : List MemD

def putVw (x : VwD) : List UInt8 := putI x.shard ++ putI x.epoch ++ putI x.gen ++ putI x.phase ++ putL putMem x.chain
def getVw (l : List UInt8) (a : Nat) : Option (VwD × Nat) :=
  (getI l a).bind fun x0 => (getI l x0.2).bind fun x1 => (getI l x1.2).bind fun x2 => (getI l x2.2).bind fun x3 => (getL getMem l x3.2).bind fun x4 => 
    some (⟨x0.1, x1.1, x2.1, x3.1, x4.1⟩, x4.2)
def PVw (x : VwD) : Prop := In x.shard ∧ In x.epoch ∧ In x.gen ∧ In x.phase ∧ (x.chain.length ≤ 4096 ∧ ∀ y ∈ x.chain, PMem y)
theorem lawVw : Law getVw putVw PVw := fun l a x nx h => by
  unfold getVw at h
  simp only [Option.bind_eq_some_iff] at h
  obtain ⟨⟨x0, p0⟩, h0, ⟨x1, p1⟩, h1, ⟨x2, p2⟩, h2, ⟨x3, p3⟩, h3, ⟨x4, p4⟩, h4, e⟩ := h
  simp only [Option.some.injEq, Prod.mk.injEq] at e
  obtain ⟨rfl, rfl⟩ := e
  obtain ⟨a0, b0, c0, d0⟩ := lawI l _ _ _ h0
  obtain ⟨a1, b1, c1, d1⟩ := lawI l _ _ _ h1
  obtain ⟨a2, b2, c2, d2⟩ := lawI l _ _ _ h2
  obtain ⟨a3, b3, c3, d3⟩ := lawI l _ _ _ h3
  obtain ⟨a4, b4, c4, d4⟩ := (getL_law lawMem) l _ _ _ h4
  simp only at a1 a2 a3 a4 c1 c2 c3 c4
  refine ⟨by omega, b4, ?_, d0, d1, d2, d3, d4⟩
  unfold putVw
  rw [seg_append (b := p3) (by omega) (by omega), seg_append (b := p2) (by omega) (by omega), seg_append (b := p1) (by omega) (by omega), seg_append (b := p0) (by omega) (by omega), c0, c1, c2, c3, c4]

structure SnD where
  sess : Int
  num : Int
  ver : Int × Int
  kind : Int
  code : Int
  res : List UInt8
  has : Bool

def putSn (x : SnD) : List UInt8 := putI x.sess ++ putI x.num ++ putV2 x.ver ++ putI x.kind ++ putI x.code ++ putT x.res ++ putB x.has
def getSn (l : List UInt8) (a : Nat) : Option (SnD × Nat) :=
  (getI l a).bind fun x0 => (getI l x0.2).bind fun x1 => (getV l x1.2).bind fun x2 => (getI l x2.2).bind fun x3 => (getI l x3.2).bind fun x4 => (getT l x4.2).bind fun x5 => (getB l x5.2).bind fun x6 => 
    some (⟨x0.1, x1.1, x2.1, x3.1, x4.1, x5.1, x6.1⟩, x6.2)
def PSn (x : SnD) : Prop := In x.sess ∧ In x.num ∧ Fit2 x.ver ∧ In x.kind ∧ In x.code ∧ x.res.length ≤ 65536 ∧ True
theorem lawSn : Law getSn putSn PSn := fun l a x nx h => by
  unfold getSn at h
  simp only [Option.bind_eq_some_iff] at h
  obtain ⟨⟨x0, p0⟩, h0, ⟨x1, p1⟩, h1, ⟨x2, p2⟩, h2, ⟨x3, p3⟩, h3, ⟨x4, p4⟩, h4, ⟨x5, p5⟩, h5, ⟨x6, p6⟩, h6, e⟩ := h
  simp only [Option.some.injEq, Prod.mk.injEq] at e
  obtain ⟨rfl, rfl⟩ := e
  obtain ⟨a0, b0, c0, d0⟩ := lawI l _ _ _ h0
  obtain ⟨a1, b1, c1, d1⟩ := lawI l _ _ _ h1
  obtain ⟨a2, b2, c2, d2⟩ := lawV l _ _ _ h2
  obtain ⟨a3, b3, c3, d3⟩ := lawI l _ _ _ h3
  obtain ⟨a4, b4, c4, d4⟩ := lawI l _ _ _ h4
  obtain ⟨a5, b5, c5, d5⟩ := lawT l _ _ _ h5
  obtain ⟨a6, b6, c6, d6⟩ := lawB l _ _ _ h6
  simp only at a1 a2 a3 a4 a5 a6 c1 c2 c3 c4 c5 c6
  refine ⟨by omega, b6, ?_, d0, d1, d2, d3, d4, d5, d6⟩
  unfold putSn
  rw [seg_append (b := p5) (by omega) (by omega), seg_append (b := p4) (by omega) (by omega), seg_append (b := p3) (by omega) (by omega), seg_append (b := p2) (by omega) (by omega), seg_append (b := p1) (by omega) (by omega), seg_append (b := p0) (by omega) (by omega), c0, c1, c2, c3, c4, c5, c6]

structure ImD where
  floor : Int × Int
  last : Int × Int
  gen : Int
  log : List EnD
  seen : List SnD

def putIm (x : ImD) : List UInt8 := putV2 x.floor ++ putV2 x.last ++ putI x.gen ++ putL putE x.log ++ putL putSn x.seen
def getIm (l : List UInt8) (a : Nat) : Option (ImD × Nat) :=
  (getV l a).bind fun x0 => (getV l x0.2).bind fun x1 => (getI l x1.2).bind fun x2 => (getL getE l x2.2).bind fun x3 => (getL getSn l x3.2).bind fun x4 => 
    some (⟨x0.1, x1.1, x2.1, x3.1, x4.1⟩, x4.2)
def PIm (x : ImD) : Prop := Fit2 x.floor ∧ Fit2 x.last ∧ In x.gen ∧ (x.log.length ≤ 4096 ∧ ∀ y ∈ x.log, PE y) ∧ (x.seen.length ≤ 4096 ∧ ∀ y ∈ x.seen, PSn y)
theorem lawIm : Law getIm putIm PIm := fun l a x nx h => by
  unfold getIm at h
  simp only [Option.bind_eq_some_iff] at h
  obtain ⟨⟨x0, p0⟩, h0, ⟨x1, p1⟩, h1, ⟨x2, p2⟩, h2, ⟨x3, p3⟩, h3, ⟨x4, p4⟩, h4, e⟩ := h
  simp only [Option.some.injEq, Prod.mk.injEq] at e
  obtain ⟨rfl, rfl⟩ := e
  obtain ⟨a0, b0, c0, d0⟩ := lawV l _ _ _ h0
  obtain ⟨a1, b1, c1, d1⟩ := lawV l _ _ _ h1
  obtain ⟨a2, b2, c2, d2⟩ := lawI l _ _ _ h2
  obtain ⟨a3, b3, c3, d3⟩ := (getL_law lawE) l _ _ _ h3
  obtain ⟨a4, b4, c4, d4⟩ := (getL_law lawSn) l _ _ _ h4
  simp only at a1 a2 a3 a4 c1 c2 c3 c4
  refine ⟨by omega, b4, ?_, d0, d1, d2, d3, d4⟩
  unfold putIm
  rw [seg_append (b := p3) (by omega) (by omega), seg_append (b := p2) (by omega) (by omega), seg_append (b := p1) (by omega) (by omega), seg_append (b := p0) (by omega) (by omega), c0, c1, c2, c3, c4]

structure MsD where
  ns : List Int
  has : Bool
  fresh : Bool
  key : List UInt8
  val : List UInt8
  ver : Int × Int
  floor : Int × Int
  op : OpD
  ents : List EnD
  chain : List MemD
  views : List VwD
  img : ImD

def putMs (x : MsD) : List UInt8 := nums x.ns ++ putB x.has ++ putB x.fresh ++ putT x.key ++ putT x.val ++ putV2 x.ver ++ putV2 x.floor ++ putO x.op ++ putL putE x.ents ++ putL putMem x.chain ++ putL putVw x.views ++ putIm x.img
def getMs (l : List UInt8) (a : Nat) : Option (MsD × Nat) :=
  (getN getI l 12 a).bind fun x0 => (getB l x0.2).bind fun x1 => (getB l x1.2).bind fun x2 => (getT l x2.2).bind fun x3 => (getT l x3.2).bind fun x4 => (getV l x4.2).bind fun x5 => (getV l x5.2).bind fun x6 => (getO l x6.2).bind fun x7 => (getL getE l x7.2).bind fun x8 => (getL getMem l x8.2).bind fun x9 => (getL getVw l x9.2).bind fun x10 => (getIm l x10.2).bind fun x11 => 
    some (⟨x0.1, x1.1, x2.1, x3.1, x4.1, x5.1, x6.1, x7.1, x8.1, x9.1, x10.1, x11.1⟩, x11.2)
def PMs (x : MsD) : Prop := (x.ns.length = 12 ∧ ∀ y ∈ x.ns, In y) ∧ True ∧ True ∧ x.key.length ≤ 65536 ∧ x.val.length ≤ 65536 ∧ Fit2 x.ver ∧ Fit2 x.floor ∧ PO x.op ∧ (x.ents.length ≤ 4096 ∧ ∀ y ∈ x.ents, PE y) ∧ (x.chain.length ≤ 4096 ∧ ∀ y ∈ x.chain, PMem y) ∧ (x.views.length ≤ 4096 ∧ ∀ y ∈ x.views, PVw y) ∧ PIm x.img
theorem lawMs : Law getMs putMs PMs := fun l a x nx h => by
  unfold getMs at h
  simp only [Option.bind_eq_some_iff] at h
  obtain ⟨⟨x0, p0⟩, h0, ⟨x1, p1⟩, h1, ⟨x2, p2⟩, h2, ⟨x3, p3⟩, h3, ⟨x4, p4⟩, h4, ⟨x5, p5⟩, h5, ⟨x6, p6⟩, h6, ⟨x7, p7⟩, h7, ⟨x8, p8⟩, h8, ⟨x9, p9⟩, h9, ⟨x10, p10⟩, h10, ⟨x11, p11⟩, h11, e⟩ := h
  simp only [Option.some.injEq, Prod.mk.injEq] at e
  obtain ⟨rfl, rfl⟩ := e
  obtain ⟨a0, b0, c0, d0⟩ := lawN l _ _ _ h0
  obtain ⟨a1, b1, c1, d1⟩ := lawB l _ _ _ h1
  obtain ⟨a2, b2, c2, d2⟩ := lawB l _ _ _ h2
  obtain ⟨a3, b3, c3, d3⟩ := lawT l _ _ _ h3
  obtain ⟨a4, b4, c4, d4⟩ := lawT l _ _ _ h4
  obtain ⟨a5, b5, c5, d5⟩ := lawV l _ _ _ h5
  obtain ⟨a6, b6, c6, d6⟩ := lawV l _ _ _ h6
  obtain ⟨a7, b7, c7, d7⟩ := lawO l _ _ _ h7
  obtain ⟨a8, b8, c8, d8⟩ := (getL_law lawE) l _ _ _ h8
  obtain ⟨a9, b9, c9, d9⟩ := (getL_law lawMem) l _ _ _ h9
  obtain ⟨a10, b10, c10, d10⟩ := (getL_law lawVw) l _ _ _ h10
  obtain ⟨a11, b11, c11, d11⟩ := lawIm l _ _ _ h11
  simp only at a1 a2 a3 a4 a5 a6 a7 a8 a9 a10 a11 c1 c2 c3 c4 c5 c6 c7 c8 c9 c10 c11
  refine ⟨by omega, b11, ?_, d0, d1, d2, d3, d4, d5, d6, d7, d8, d9, d10, d11⟩
  unfold putMs
  rw [seg_append (b := p10) (by omega) (by omega), seg_append (b := p9) (by omega) (by omega), seg_append (b := p8) (by omega) (by omega), seg_append (b := p7) (by omega) (by omega), seg_append (b := p6) (by omega) (by omega), seg_append (b := p5) (by omega) (by omega), seg_append (b := p4) (by omega) (by omega), seg_append (b := p3) (by omega) (by omega), seg_append (b := p2) (by omega) (by omega), seg_append (b := p1) (by omega) (by omega), seg_append (b := p0) (by omega) (by omega), c0, c1, c2, c3, c4, c5, c6, c7, c8, c9, c10, c11]

end Go.Proofs.Ytolgbnpginifkaa.msgd
