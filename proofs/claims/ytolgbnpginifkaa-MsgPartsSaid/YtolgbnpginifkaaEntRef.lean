/- The contracts of lockgateref05's cat, bit and Ver. -/
import Derived.Test.YtolgbnpginifkaaEntPut
namespace Go.Proofs.Ytolgbnpginifkaa.entref
open Go.ChangeShapes Go.WideShapes Go.ChangeAt Go.RowKit codec st own put ref blk
set_option linter.unusedVariables false

/-- A literal's bytes, in a new block: told as put behind nothing. -/
theorem putsLit (w : World) (l : List UInt8) (cs : Array Value) (T : TypeId) (n : Nat) (h : cs = (l.map B).toArray) (hn : n = l.length) (hm : n ≤ 1000000) :
    Puts w (w.alloc (.cells cs T)) (.slice none 0 0) (.slice (some ⟨w.heap.size, 0, none⟩) n n) l := by
  refine ⟨Has.lit w l cs T n _ h hn hm rfl, { Fr.of_below ((Below.refl _ w).alloc (Nat.le_refl _) _) (.slice none 0 0) with next := .inr (.inr ⟨_, _, _, _, rfl, Nat.le_refl _⟩) }, fun k hk => ?_⟩
  simp only [Value.ownBlock, Option.some.injEq] at hk
  exact .inr (by omega)

theorem bit_any (b : Bool) (w : World) : Calls Try.prog 56 #[.bool b] w (PutsTo w (.slice none 0 0) (putB b)) := by
  cases b
  · go_enter Try.func56, Try.ntmps56
    go_wp2_with fail
    go_ret
    exact ⟨_, rfl, putsLit w [0] _ _ 1 rfl rfl (by decide)⟩
  · go_enter Try.func56, Try.ntmps56
    go_wp2_with fail
    go_ret
    exact ⟨_, rfl, putsLit w [1] _ _ 1 rfl rfl (by decide)⟩

theorem Puts.below0 {w w' : World} {v : Value} {l : List UInt8} (p : Puts w w' (.slice none 0 0) v l) : Below w.heap.size w w' :=
  p.fr.below (fun ⟨_, _, _, e, hlt⟩ => by simp only [Value.slice.injEq] at e; omega)

def CatAt (w : World) (ls : List (List UInt8)) (v i : Value) (wr : World) : Prop :=
  ∃ k : Nat, i = .int .i64 k ∧ k ≤ ls.length ∧ Puts w wr (.slice none 0 0) v (ls.take k).flatten

theorem take_flat {ls : List (List UInt8)} {k : Nat} {l : List UInt8} (h : ls[k]? = some l) : (ls.take (k + 1)).flatten = (ls.take k).flatten ++ l := by
  rw [List.take_add_one, h]; simp
theorem flat_le (ls : List (List UInt8)) (k : Nat) : (ls.take k).flatten.length ≤ ls.flatten.length := by
  have := congrArg List.length (congrArg List.flatten (List.take_append_drop k ls))
  rw [List.flatten_append, List.length_append] at this
  omega

theorem CatAt.next {w wr w' : World} {ls : List (List UInt8)} {v v' : Value} {k : Nat} {l : List UInt8} (hk : k < ls.length) (hl : ls[k]? = some l) (hp : Puts w wr (.slice none 0 0) v (ls.take k).flatten)
    (q : Puts wr w' v v' ((ls.take k).flatten ++ l)) (z : Int) (hz : z = ((k + 1 : Nat) : Int)) : CatAt w ls v' (.int .i64 z) w' := by
  subst hz
  refine ⟨k + 1, rfl, hk, ?_⟩
  rw [take_flat hl]
  exact hp.trans q

set_option maxRecDepth 100000 in
theorem cat_any (b : Nat) (vs : List Value) (ls : List (List UInt8)) (w : World) (n : Nat) (hB : Blk w b vs) (hn : n = vs.length) (hlen : vs.length = ls.length) (hv : ∀ (i : Nat) (l : List UInt8), ls[i]? = some l → ∃ v, vs[i]? = some v ∧ Rd w v l) (hm : n ≤ 1000) (hb : ls.flatten.length ≤ 140737488350000) :
    Calls Try.prog 54 #[.slice (some ⟨b, 0, none⟩) n n] w (PutsTo w (.slice none 0 0) ls.flatten) := by
  obtain ⟨i0, hi, hz0, hz1, hz2⟩ := info_parts info_u8
  have HI := Lib.hid hi
  have HN := Lib.hid (hn.trans hlen)
  have HV := Lib.hid hv
  clear hi hn hv hlen
  have hnil := Has.nil w
  go_enter Try.func54, Try.ntmps54
  go_wp2
  go_loopw [3, 4] (fun v i wr => CatAt w ls v i wr) (fun _ i _ => n - (intOf i).toNat)
  case atStart => exact ⟨0, rfl, Nat.zero_le _, Puts.refl hnil⟩
  case round =>
    obtain ⟨k, rfl, hk, hp⟩ := hrel
    have HK := Lib.hid hk
    have hk' : k ≤ n := by rw [HN.out]; exact hk
    clear hk
    by_cases hc : k < n
    · obtain ⟨l, hl⟩ : ∃ l, ls[k]? = some l := ⟨_, List.getElem?_eq_getElem (by rw [← HN.out]; exact hc)⟩
      obtain ⟨v, hv, hr⟩ := HV.out k l hl
      have hbel := Puts.below0 hp
      have hcell := (hB.below hbel hB.lt).cell hv
      have hr' := hr.below hbel (Nat.le_refl _)
      have hle := flat_le ls (k + 1)
      rw [take_flat hl, List.length_append] at hle
      have HL := Lib.hid hl
      have HR := Lib.hid hr'
      clear hl hv hr hr'
      go_wp2_with (at_builtin; refine wpList_put rfl _ _ _ _ rfl 5 i0 Try.underlying24 HI.out hz0 hz1 hz2 rfl hp.has _ l rfl (HR.out.src Try.underlying24) (by omega) ?_; intro v' w' hq)
      go_roundw
      case rel => exact CatAt.next (by rw [← HN.out]; exact hc) HL.out hp hq _ (by omega)
      case measure => simp [intOf]; omega
    · go_wp2
      go_ret
      refine ⟨_, rfl, ?_⟩
      rw [List.take_of_length_le (by rw [← HN.out]; omega)] at hp
      exact hp

end Go.Proofs.Ytolgbnpginifkaa.entref
