/- lockgatelaw05.awake answers true. -/
import Derived.Test.YtolgbnpginifkaaEntRef2
namespace Go.Proofs.Ytolgbnpginifkaa.awake5
open Go.ChangeShapes Go.WideShapes Go.ChangeAt Go.RowKit codec st put ref get blk ent entget
set_option linter.unusedVariables false

theorem equalC (d : Nat) (a b c e : Nat) (w : World) : (Op.equalIn (d + 1) 40 (.complex .f64 a b) (.complex .f64 c e)).run Try.prog w =
    .ok ((FloatKind.f64.format.order a c == some Ordering.eq) && (FloatKind.f64.format.order b e == some Ordering.eq)) w := by
  simp [Op.equalIn, run_underlying Try.underlying40]
  rfl

def zD : EnD := ⟨0, 0, 0, [], [], false, false, 0, 0, 0, [], false⟩
def oD : OpD := ⟨2, [107], [118], [], false⟩

theorem k1 : getE ([] ++ putE zD) 0 = some (zD, 12) := by rfl
theorem k2 : getO ([] ++ putO oD) 0 = some (oD, 7) := by rfl
theorem k3 : ([] ++ putE zD).length = 12 := by rfl
theorem zBits : flt.F 0 = 0 := flt.zero_bits
theorem cEz : cE zD = zE := by simp [cE, zE, zD, zBits]

set_option maxRecDepth 100000 in
theorem size_any (o : EnD) (w : World) (h1 : o.key.length ≤ 65536) (h2 : o.val.length ≤ 65536) :
    Calls Try.prog 49 #[.agg (cE o).toArray] w fun e w' => e = .returned (.int .i64 ((o.key.length : Int) + o.val.length + 1)) ∧ Below w.heap.size w w' := by
  have kz := Blk.new w (cE o) 48
  have c2 := kz.cell (j := 2) rfl
  have c3 := kz.cell (j := 3) rfl
  have s2 : (ByteArray.mk o.key.toArray).size = o.key.length := by simp [ByteArray.size]
  have s3 : (ByteArray.mk o.val.toArray).size = o.val.length := by simp [ByteArray.size]
  go_enter Try.func49, Try.ntmps49
  go_wp2_with fail
  go_ret
  exact ⟨rfl, (Below.refl _ _).alloc (Nat.le_refl _) _⟩

set_option maxRecDepth 100000 in
set_option maxHeartbeats 1000000 in
theorem awake_any (w : World) : Calls Try.prog 30 #[] w (Says w true) := by
  have P1 := entput.ent_any (.slice none 0 0) [] zD w (Has.nil w) (by decide) (by decide) (by decide) (by decide) (by decide) (by decide) (by decide) (by decide) (by decide) (by decide)
  rw [cEz] at P1
  have hst : ∀ (x y : Nat) (w : World) (a : Addr) (q : Mode), (store a (.complex .f64 x y) q).run Try.prog w = stored Try.prog w a (.complex .f64 x y) q := fun x y w a q => run_store Try.prog w a _ q rfl
  have hce := equalC
  go_enter Try.func30, Try.ntmps30
  go_wp2_with fail
  refine P1.mono ?_
  rintro r w1 ⟨v1, rfl, p1⟩
  have s1 : St w.heap.size w w1 [(v1, [] ++ putE zD)] := St.ofNil (St.start w) p1
  obtain ⟨a1, c1, hx⟩ := (show Has w1 v1 ([] ++ putE zD) from s1.has0).len
  rw [k3] at hx
  subst hx
  go_wp2_with fail
  refine (entget.ent_any _ _ 0 w1 s1.has0.rd (by omega) (by rw [k3]; omega)).mono ?_
  rintro r w2 ⟨rfl, b2⟩
  rw [k1]
  simp only [vE, cEz, zE]
  have s2 := s1.quiet b2
  go_wp2_with fail
  have s3 := s2.alloc (.cells zE.toArray 48)
  have kB := Blk.new w2 zE 48
  refine (entput.op_any (.slice none 0 0) [] oD _ (Has.nil _) (by decide) (by decide) (by decide) (by decide) (by decide)).mono ?_
  rintro r w3 ⟨v3, rfl, p3⟩
  have s4 := St.ofNil s3 p3
  go_wp2_with fail
  refine (entget.op_any v3 ([] ++ putO oD) 0 w3 s4.has0.rd (by omega) (by decide)).mono ?_
  rintro r w4 ⟨rfl, b4⟩
  rw [k2]
  simp only [vO, cO, oD]
  have s5 := s4.quiet b4
  have hq0 := Lib.hid (ver.eq_refl_F 0 (by omega) (by omega))
  have hq : (FloatKind.f64.format.order 0 0 == some Ordering.eq) = true := by have := hq0.out; rw [zBits] at this; exact this
  have kC := (kB.below (entref.Puts.below0 p3) kB.lt)
  have kD := kC.below b4 kC.lt
  have hlt := kD.lt
  have zc0 := kD.cell (j := 0) rfl
  have zc1 := kD.cell (j := 1) rfl
  have zc2 := kD.cell (j := 2) rfl
  have zc3 := kD.cell (j := 3) rfl
  have zc4 := kD.cell (j := 4) rfl
  have zc5 := kD.cell (j := 5) rfl
  have zc6 := kD.cell (j := 6) rfl
  have zc7 := kD.cell (j := 7) rfl
  have zc8 := kD.cell (j := 8) rfl
  have zc9 := kD.cell (j := 9) rfl
  have zc10 := kD.cell (j := 10) rfl
  have P2 := fun w => size_any ⟨0, 0, 0, [97, 98], [99], false, false, 0, 0, 0, [], false⟩ w (by decide) (by decide)
  simp only [cE, zBits] at P2
  go_wp2_with fail
  refine (P2 _).mono ?_
  rintro r w5 ⟨rfl, b5⟩
  go_wp2_with fail
  go_ret
  exact ⟨rfl, ((s5.alloc _).quiet b5).bel⟩
end Go.Proofs.Ytolgbnpginifkaa.awake5
