/- The contracts of lockgateref06.Views and seens. -/
import Derived.Test.YtolgbnpginifkaaMRefA
namespace Go.Proofs.Ytolgbnpginifkaa.mref
open Go.ChangeShapes Go.WideShapes Go.ChangeAt Go.RowKit codec st own put ref get blk rep ent msgd entget entref minto
set_option linter.unusedVariables false

theorem CatA.next2 {w w' : World} {pre : List UInt8} {ls : List (List UInt8)} {v' : Value} {k : Nat} {l : List UInt8} (hk : k < ls.length) (hl : ls[k]? = some l)
    {full : List UInt8} (hf : full = (pre ++ (ls.take k).flatten) ++ l) (q : Puts w w' (.slice none 0 0) v' full) (z : Int) (hz : z = ((k + 1 : Nat) : Int)) : CatA w pre ls v' (.int .i64 z) w' := by
  subst hz hf
  refine ⟨k + 1, rfl, hk, ?_⟩
  rw [take_flat hl, ← List.append_assoc]
  exact q

set_option maxRecDepth 100000 in
set_option maxHeartbeats 4000000 in
theorem views_any (v0 : Value) (xs : List VwD) (w : World) (S : Nat → Prop) (h : (list rVw).rep w S xs [v0]) (hP : ∀ x ∈ xs, PVw x) (hlen : xs.length ≤ 4096) (hby : (putL putVw xs).length ≤ 1000000) :
    Calls Try.prog 42 #[v0] w (PutsTo w (.slice none 0 0) (putL putVw xs)) := by
  obtain ⟨i0, hi, hz0, hz1, hz2⟩ := info_parts info_u8
  have HI := Lib.hid hi
  have HP := Lib.hid hP
  clear hi hP
  have HE := Lib.hid (putL_eq putVw xs)
  rw [putL_eq, List.length_append] at hby
  obtain ⟨v', rows, e, hrows, hl0, a, cap, rfl, hk1, hk2, hc⟩ := h
  simp only [List.cons.injEq, and_true] at e
  subst e
  unfold maxLen at hk2
  have HROWS := Lib.hid hrows
  have HC := Lib.hid hc
  have HL0 := Lib.hid hl0
  clear hrows hc hl0
  go_enter Try.func42, Try.ntmps42
  go_wp2_with fail
  refine (rint_any _ _ (by omega) (by omega)).mono ?_
  rintro r w1 ⟨v1, rfl, p1⟩
  rw [List.nil_append] at p1
  go_wp2_with fail
  go_loopw [3, 4] (fun v i wr => CatA w (putI xs.length) (xs.map putVw) v i wr) (fun _ i _ => xs.length - (intOf i).toNat)
  case atStart => exact ⟨0, rfl, Nat.zero_le _, by simpa using p1⟩
  case round =>
    obtain ⟨k, rfl, hk, hp⟩ := hrel
    have hk' : k ≤ xs.length := by simpa using hk
    clear hk
    by_cases hlt : k < xs.length
    · obtain ⟨x, hx⟩ : ∃ x, xs[k]? = some x := ⟨_, List.getElem?_eq_getElem hlt⟩
      obtain ⟨cs, hrep, hcs⟩ := HROWS.out.at hx
      have hbel := Puts.below0 hp
      have HPX := Lib.hid (HP.out x (List.mem_of_getElem? hx))
      have hle := flat_le2 (xs.map putVw) (mapAt putVw hx)
      have HX := Lib.hid hx
      clear hx
      obtain ⟨u4, rfl, hchain⟩ := hrep
      obtain ⟨u4', rows4, e4, hrow4, hl4, a4, cap4, rfl, hd4⟩ := hchain
      simp only [List.cons.injEq, and_true] at e4
      subst e4
      obtain ⟨g, off, rfl, -, hg, hcell⟩ := HC.out (k * 5 + 0) _ (hcs 0 _ rfl)
      have HCH := Lib.hid (show (list rMem).rep w S x.chain [.slice a4 x.chain.length cap4] from ⟨_, rows4, rfl, hrow4, hl4, _, _, rfl, hd4⟩)
      clear hrow4 hd4
      have hr : w.rangeAt g (off + k * 5) [.int .i64 x.shard, .int .i64 x.epoch, .int .i64 x.gen, .int .i64 x.phase, .slice a4 x.chain.length cap4] := fun j u hu => by
        obtain ⟨g', off', e, -, hg', hcell'⟩ := HC.out (k * 5 + j) _ (hcs j _ hu)
        simp only [Option.some.injEq, Addr.mk.injEq, and_true] at e
        obtain ⟨rfl, rfl⟩ := e
        rw [Nat.add_assoc]
        exact hcell'
      clear hcell
      have fw0 := hr 0 _ rfl
      have fw1 := hr 1 _ rfl
      have fw2 := hr 2 _ rfl
      have fw3 := hr 3 _ rfl
      have fw4 := hr 4 _ rfl
      rw [Nat.add_zero] at fw0
      clear hr
      have q := HPX.out
      unfold PVw at q
      obtain ⟨q0, q1, q2, q3, q4, q5⟩ := q
      have Q5 := Lib.hid q5
      clear q5
      have hputx : putVw x = nums [x.shard, x.epoch, x.gen, x.phase] ++ putL putMem x.chain := by simp [putVw, nums, List.append_assoc]
      have HPT := Lib.hid hputx
      have hlx := hle
      rw [hputx, List.length_append] at hlx
      clear hputx
      have hk0 : (0 : Int) ≤ k := by omega
      have hk1' : (k : Int) < xs.length := by omega
      go_wp2_with fail
      refine mix.wp_region_mix (fun x => Below w.heap.size w x) mix.noOper [([0, 1, 2, 3, 4, 5, 6, 7, 8, 9, 10, 11, 12, 13, 14, 15, 16, 17, 18, 19, 20], 21), ([], 22), ([], 23)] [24] (by kernel_rfl) (by kernel_rfl) (fun _ _ _ d _ h => by cases d <;> exact h) ?_ ?_
      · exact hbel.drew
      rw [mix.wpMix_cons]
      simp only [List.map_cons, List.map_nil, List.getD_cons_succ, List.getD_cons_zero]
      refine BigFrame.wpQuiet_want rfl (fun K hK => ?_)
      refine entref.quiet_val (u3) (fun x hx => by have hc0 := (hx.cell (p := ⟨g, off + k * 5, none⟩) hg).trans fw0; have hc1 := (hx.cell (p := ⟨g, off + k * 5 + 1, none⟩) hg).trans fw1; have hc2 := (hx.cell (p := ⟨g, off + k * 5 + 2, none⟩) hg).trans fw2; have hc3 := (hx.cell (p := ⟨g, off + k * 5 + 3, none⟩) hg).trans fw3; go_simp) (hK _ ?_)
      clear hK K
      simp only [Act.put, List.setIfInBounds_toArray, List.set_cons_zero, List.set_cons_succ]
      refine BigFrame.wpQuiet_want rfl (fun K hK => ?_)
      refine entref.quiet_val (.slice (some ⟨g, off, none⟩) xs.length cap) (fun x hx => by have hc0 := (hx.cell (p := ⟨g, off + k * 5, none⟩) hg).trans fw0; have hc1 := (hx.cell (p := ⟨g, off + k * 5 + 1, none⟩) hg).trans fw1; have hc2 := (hx.cell (p := ⟨g, off + k * 5 + 2, none⟩) hg).trans fw2; have hc3 := (hx.cell (p := ⟨g, off + k * 5 + 3, none⟩) hg).trans fw3; go_simp) (hK _ ?_)
      clear hK K
      simp only [Act.put, List.setIfInBounds_toArray, List.set_cons_zero, List.set_cons_succ]
      refine BigFrame.wpQuiet_want rfl (fun K hK => ?_)
      refine entref.quiet_val (.int .i64 k) (fun x hx => by have hc0 := (hx.cell (p := ⟨g, off + k * 5, none⟩) hg).trans fw0; have hc1 := (hx.cell (p := ⟨g, off + k * 5 + 1, none⟩) hg).trans fw1; have hc2 := (hx.cell (p := ⟨g, off + k * 5 + 2, none⟩) hg).trans fw2; have hc3 := (hx.cell (p := ⟨g, off + k * 5 + 3, none⟩) hg).trans fw3; go_simp) (hK _ ?_)
      clear hK K
      simp only [Act.put, List.setIfInBounds_toArray, List.set_cons_zero, List.set_cons_succ]
      refine BigFrame.wpQuiet_want rfl (fun K hK => ?_)
      refine entref.quiet_val (.pointer (some ⟨g, off + k * 5, none⟩)) (fun x hx => by have hc0 := (hx.cell (p := ⟨g, off + k * 5, none⟩) hg).trans fw0; have hc1 := (hx.cell (p := ⟨g, off + k * 5 + 1, none⟩) hg).trans fw1; have hc2 := (hx.cell (p := ⟨g, off + k * 5 + 2, none⟩) hg).trans fw2; have hc3 := (hx.cell (p := ⟨g, off + k * 5 + 3, none⟩) hg).trans fw3; go_simp) (hK _ ?_)
      clear hK K
      simp only [Act.put, List.setIfInBounds_toArray, List.set_cons_zero, List.set_cons_succ]
      refine BigFrame.wpQuiet_want rfl (fun K hK => ?_)
      refine entref.quiet_val (.pointer (some ⟨g, off + k * 5, none⟩)) (fun x hx => by have hc0 := (hx.cell (p := ⟨g, off + k * 5, none⟩) hg).trans fw0; have hc1 := (hx.cell (p := ⟨g, off + k * 5 + 1, none⟩) hg).trans fw1; have hc2 := (hx.cell (p := ⟨g, off + k * 5 + 2, none⟩) hg).trans fw2; have hc3 := (hx.cell (p := ⟨g, off + k * 5 + 3, none⟩) hg).trans fw3; go_simp) (hK _ ?_)
      clear hK K
      simp only [Act.put, List.setIfInBounds_toArray, List.set_cons_zero, List.set_cons_succ]
      refine BigFrame.wpQuiet_want rfl (fun K hK => ?_)
      refine entref.quiet_val (.int .i64 x.shard) (fun x hx => by have hc0 := (hx.cell (p := ⟨g, off + k * 5, none⟩) hg).trans fw0; have hc1 := (hx.cell (p := ⟨g, off + k * 5 + 1, none⟩) hg).trans fw1; have hc2 := (hx.cell (p := ⟨g, off + k * 5 + 2, none⟩) hg).trans fw2; have hc3 := (hx.cell (p := ⟨g, off + k * 5 + 3, none⟩) hg).trans fw3; go_simp) (hK _ ?_)
      clear hK K
      simp only [Act.put, List.setIfInBounds_toArray, List.set_cons_zero, List.set_cons_succ]
      refine BigFrame.wpQuiet_want rfl (fun K hK => ?_)
      refine entref.quiet_val (.slice (some ⟨g, off, none⟩) xs.length cap) (fun x hx => by have hc0 := (hx.cell (p := ⟨g, off + k * 5, none⟩) hg).trans fw0; have hc1 := (hx.cell (p := ⟨g, off + k * 5 + 1, none⟩) hg).trans fw1; have hc2 := (hx.cell (p := ⟨g, off + k * 5 + 2, none⟩) hg).trans fw2; have hc3 := (hx.cell (p := ⟨g, off + k * 5 + 3, none⟩) hg).trans fw3; go_simp) (hK _ ?_)
      clear hK K
      simp only [Act.put, List.setIfInBounds_toArray, List.set_cons_zero, List.set_cons_succ]
      refine BigFrame.wpQuiet_want rfl (fun K hK => ?_)
      refine entref.quiet_val (.int .i64 k) (fun x hx => by have hc0 := (hx.cell (p := ⟨g, off + k * 5, none⟩) hg).trans fw0; have hc1 := (hx.cell (p := ⟨g, off + k * 5 + 1, none⟩) hg).trans fw1; have hc2 := (hx.cell (p := ⟨g, off + k * 5 + 2, none⟩) hg).trans fw2; have hc3 := (hx.cell (p := ⟨g, off + k * 5 + 3, none⟩) hg).trans fw3; go_simp) (hK _ ?_)
      clear hK K
      simp only [Act.put, List.setIfInBounds_toArray, List.set_cons_zero, List.set_cons_succ]
      refine BigFrame.wpQuiet_want rfl (fun K hK => ?_)
      refine entref.quiet_val (.pointer (some ⟨g, off + k * 5, none⟩)) (fun x hx => by have hc0 := (hx.cell (p := ⟨g, off + k * 5, none⟩) hg).trans fw0; have hc1 := (hx.cell (p := ⟨g, off + k * 5 + 1, none⟩) hg).trans fw1; have hc2 := (hx.cell (p := ⟨g, off + k * 5 + 2, none⟩) hg).trans fw2; have hc3 := (hx.cell (p := ⟨g, off + k * 5 + 3, none⟩) hg).trans fw3; go_simp) (hK _ ?_)
      clear hK K
      simp only [Act.put, List.setIfInBounds_toArray, List.set_cons_zero, List.set_cons_succ]
      refine BigFrame.wpQuiet_want rfl (fun K hK => ?_)
      refine entref.quiet_val (.pointer (some ⟨g, off + k * 5 + 1, none⟩)) (fun x hx => by have hc0 := (hx.cell (p := ⟨g, off + k * 5, none⟩) hg).trans fw0; have hc1 := (hx.cell (p := ⟨g, off + k * 5 + 1, none⟩) hg).trans fw1; have hc2 := (hx.cell (p := ⟨g, off + k * 5 + 2, none⟩) hg).trans fw2; have hc3 := (hx.cell (p := ⟨g, off + k * 5 + 3, none⟩) hg).trans fw3; go_simp) (hK _ ?_)
      clear hK K
      simp only [Act.put, List.setIfInBounds_toArray, List.set_cons_zero, List.set_cons_succ]
      refine BigFrame.wpQuiet_want rfl (fun K hK => ?_)
      refine entref.quiet_val (.int .i64 x.epoch) (fun x hx => by have hc0 := (hx.cell (p := ⟨g, off + k * 5, none⟩) hg).trans fw0; have hc1 := (hx.cell (p := ⟨g, off + k * 5 + 1, none⟩) hg).trans fw1; have hc2 := (hx.cell (p := ⟨g, off + k * 5 + 2, none⟩) hg).trans fw2; have hc3 := (hx.cell (p := ⟨g, off + k * 5 + 3, none⟩) hg).trans fw3; go_simp) (hK _ ?_)
      clear hK K
      simp only [Act.put, List.setIfInBounds_toArray, List.set_cons_zero, List.set_cons_succ]
      refine BigFrame.wpQuiet_want rfl (fun K hK => ?_)
      refine entref.quiet_val (.slice (some ⟨g, off, none⟩) xs.length cap) (fun x hx => by have hc0 := (hx.cell (p := ⟨g, off + k * 5, none⟩) hg).trans fw0; have hc1 := (hx.cell (p := ⟨g, off + k * 5 + 1, none⟩) hg).trans fw1; have hc2 := (hx.cell (p := ⟨g, off + k * 5 + 2, none⟩) hg).trans fw2; have hc3 := (hx.cell (p := ⟨g, off + k * 5 + 3, none⟩) hg).trans fw3; go_simp) (hK _ ?_)
      clear hK K
      simp only [Act.put, List.setIfInBounds_toArray, List.set_cons_zero, List.set_cons_succ]
      refine BigFrame.wpQuiet_want rfl (fun K hK => ?_)
      refine entref.quiet_val (.int .i64 k) (fun x hx => by have hc0 := (hx.cell (p := ⟨g, off + k * 5, none⟩) hg).trans fw0; have hc1 := (hx.cell (p := ⟨g, off + k * 5 + 1, none⟩) hg).trans fw1; have hc2 := (hx.cell (p := ⟨g, off + k * 5 + 2, none⟩) hg).trans fw2; have hc3 := (hx.cell (p := ⟨g, off + k * 5 + 3, none⟩) hg).trans fw3; go_simp) (hK _ ?_)
      clear hK K
      simp only [Act.put, List.setIfInBounds_toArray, List.set_cons_zero, List.set_cons_succ]
      refine BigFrame.wpQuiet_want rfl (fun K hK => ?_)
      refine entref.quiet_val (.pointer (some ⟨g, off + k * 5, none⟩)) (fun x hx => by have hc0 := (hx.cell (p := ⟨g, off + k * 5, none⟩) hg).trans fw0; have hc1 := (hx.cell (p := ⟨g, off + k * 5 + 1, none⟩) hg).trans fw1; have hc2 := (hx.cell (p := ⟨g, off + k * 5 + 2, none⟩) hg).trans fw2; have hc3 := (hx.cell (p := ⟨g, off + k * 5 + 3, none⟩) hg).trans fw3; go_simp) (hK _ ?_)
      clear hK K
      simp only [Act.put, List.setIfInBounds_toArray, List.set_cons_zero, List.set_cons_succ]
      refine BigFrame.wpQuiet_want rfl (fun K hK => ?_)
      refine entref.quiet_val (.pointer (some ⟨g, off + k * 5 + 2, none⟩)) (fun x hx => by have hc0 := (hx.cell (p := ⟨g, off + k * 5, none⟩) hg).trans fw0; have hc1 := (hx.cell (p := ⟨g, off + k * 5 + 1, none⟩) hg).trans fw1; have hc2 := (hx.cell (p := ⟨g, off + k * 5 + 2, none⟩) hg).trans fw2; have hc3 := (hx.cell (p := ⟨g, off + k * 5 + 3, none⟩) hg).trans fw3; go_simp) (hK _ ?_)
      clear hK K
      simp only [Act.put, List.setIfInBounds_toArray, List.set_cons_zero, List.set_cons_succ]
      refine BigFrame.wpQuiet_want rfl (fun K hK => ?_)
      refine entref.quiet_val (.int .i64 x.gen) (fun x hx => by have hc0 := (hx.cell (p := ⟨g, off + k * 5, none⟩) hg).trans fw0; have hc1 := (hx.cell (p := ⟨g, off + k * 5 + 1, none⟩) hg).trans fw1; have hc2 := (hx.cell (p := ⟨g, off + k * 5 + 2, none⟩) hg).trans fw2; have hc3 := (hx.cell (p := ⟨g, off + k * 5 + 3, none⟩) hg).trans fw3; go_simp) (hK _ ?_)
      clear hK K
      simp only [Act.put, List.setIfInBounds_toArray, List.set_cons_zero, List.set_cons_succ]
      refine BigFrame.wpQuiet_want rfl (fun K hK => ?_)
      refine entref.quiet_val (.slice (some ⟨g, off, none⟩) xs.length cap) (fun x hx => by have hc0 := (hx.cell (p := ⟨g, off + k * 5, none⟩) hg).trans fw0; have hc1 := (hx.cell (p := ⟨g, off + k * 5 + 1, none⟩) hg).trans fw1; have hc2 := (hx.cell (p := ⟨g, off + k * 5 + 2, none⟩) hg).trans fw2; have hc3 := (hx.cell (p := ⟨g, off + k * 5 + 3, none⟩) hg).trans fw3; go_simp) (hK _ ?_)
      clear hK K
      simp only [Act.put, List.setIfInBounds_toArray, List.set_cons_zero, List.set_cons_succ]
      refine BigFrame.wpQuiet_want rfl (fun K hK => ?_)
      refine entref.quiet_val (.int .i64 k) (fun x hx => by have hc0 := (hx.cell (p := ⟨g, off + k * 5, none⟩) hg).trans fw0; have hc1 := (hx.cell (p := ⟨g, off + k * 5 + 1, none⟩) hg).trans fw1; have hc2 := (hx.cell (p := ⟨g, off + k * 5 + 2, none⟩) hg).trans fw2; have hc3 := (hx.cell (p := ⟨g, off + k * 5 + 3, none⟩) hg).trans fw3; go_simp) (hK _ ?_)
      clear hK K
      simp only [Act.put, List.setIfInBounds_toArray, List.set_cons_zero, List.set_cons_succ]
      refine BigFrame.wpQuiet_want rfl (fun K hK => ?_)
      refine entref.quiet_val (.pointer (some ⟨g, off + k * 5, none⟩)) (fun x hx => by have hc0 := (hx.cell (p := ⟨g, off + k * 5, none⟩) hg).trans fw0; have hc1 := (hx.cell (p := ⟨g, off + k * 5 + 1, none⟩) hg).trans fw1; have hc2 := (hx.cell (p := ⟨g, off + k * 5 + 2, none⟩) hg).trans fw2; have hc3 := (hx.cell (p := ⟨g, off + k * 5 + 3, none⟩) hg).trans fw3; go_simp) (hK _ ?_)
      clear hK K
      simp only [Act.put, List.setIfInBounds_toArray, List.set_cons_zero, List.set_cons_succ]
      refine BigFrame.wpQuiet_want rfl (fun K hK => ?_)
      refine entref.quiet_val (.pointer (some ⟨g, off + k * 5 + 3, none⟩)) (fun x hx => by have hc0 := (hx.cell (p := ⟨g, off + k * 5, none⟩) hg).trans fw0; have hc1 := (hx.cell (p := ⟨g, off + k * 5 + 1, none⟩) hg).trans fw1; have hc2 := (hx.cell (p := ⟨g, off + k * 5 + 2, none⟩) hg).trans fw2; have hc3 := (hx.cell (p := ⟨g, off + k * 5 + 3, none⟩) hg).trans fw3; go_simp) (hK _ ?_)
      clear hK K
      simp only [Act.put, List.setIfInBounds_toArray, List.set_cons_zero, List.set_cons_succ]
      refine BigFrame.wpQuiet_want rfl (fun K hK => ?_)
      refine entref.quiet_val (.int .i64 x.phase) (fun x hx => by have hc0 := (hx.cell (p := ⟨g, off + k * 5, none⟩) hg).trans fw0; have hc1 := (hx.cell (p := ⟨g, off + k * 5 + 1, none⟩) hg).trans fw1; have hc2 := (hx.cell (p := ⟨g, off + k * 5 + 2, none⟩) hg).trans fw2; have hc3 := (hx.cell (p := ⟨g, off + k * 5 + 3, none⟩) hg).trans fw3; go_simp) (hK _ ?_)
      clear hK K
      simp only [Act.put, List.setIfInBounds_toArray, List.set_cons_zero, List.set_cons_succ]
      refine wpQuiet_nil ?_
      refine mix.callAt_step (by rfl) (fun K hK => ?_)
      go_simp
      have al1 := ((Below.refl wr.heap.size wr).drew).alloc (Nat.le_refl _) (.cells #[.int .i64 x.shard, .int .i64 x.epoch, .int .i64 x.gen, .int .i64 x.phase] 3)
      have kl1 := Blk.new wr.drew [.int .i64 x.shard, .int .i64 x.epoch, .int .i64 x.gen, .int .i64 x.phase] 3
      refine hK _ _ ⟨hbel.trans (al1.mono hbel.size), ?_⟩
      clear hK K
      rw [mix.wpMix_cons]
      simp only [List.map_nil, List.getD_cons_succ, List.getD_cons_zero]
      refine wpQuiet_nil ?_
      refine mix.callAt_step (by rfl) (fun K hK => ?_)
      go_simp
      refine (numbers_any wr.heap.size 4 [x.shard, x.epoch, x.gen, x.phase] (wr.drew.alloc (.cells #[.int .i64 x.shard, .int .i64 x.epoch, .int .i64 x.gen, .int .i64 x.phase] 3)) kl1 rfl (by omega) (by simp only [List.mem_cons, List.not_mem_nil, or_false, forall_eq_or_imp, forall_eq]; exact ⟨q0, q1, q2, q3⟩)).mono ?_
      rintro r wn1 ⟨vn1, rfl, pn1⟩
      have hp1 := Puts.over hp (al1.trans ((Puts.below0 pn1).mono al1.size))
      have sn1 := (show Has wn1 vn1 (nums [x.shard, x.epoch, x.gen, x.phase]) from pn1.has).rd
      go_wp2_with fail
      refine ⟨(Puts.below0 hp1), ?_⟩
      rw [mix.wpMix_cons]
      simp only [List.map_nil, List.getD_cons_succ, List.getD_cons_zero]
      refine wpQuiet_nil ?_
      refine mix.callAt_step (by rfl) (fun K hK => ?_)
      refine wp_put _ _ _ _ rfl 5 i0 Try.underlying24 HI.out hz0 hz1 hz2 rfl hp1.has _ (nums [x.shard, x.epoch, x.gen, x.phase]) rfl (sn1.src Try.underlying24) (by rw [List.length_append]; omega) (fun vq1 wq1 hq1 => hK _ _ ⟨Puts.below0 (hp1.trans hq1), ?_⟩)
      clear hK K
      have hr1 := hp1.trans hq1
      have hb1 := Puts.below0 hr1
      rw [mix.wpMix_nil]
      simp only [List.map_cons, List.map_nil, List.getD_cons_succ, List.getD_cons_zero]
      refine BigFrame.wpQuiet_want rfl (fun K hK => ?_)
      refine entref.quiet_val (vq1) (fun x hx => by go_simp) (hK _ ?_)
      clear hK K
      simp only [Act.put, List.setIfInBounds_toArray, List.set_cons_zero, List.set_cons_succ]
      refine wpQuiet_nil ?_
      have f4_q1 := (hb1.cell (p := ⟨g, off + k * 5 + 4, none⟩) hg).trans fw4
      go_wp2_with fail
      refine (members_any _ x.chain _ S ((list rMem).keep (fun b _ hb => hb1.block b hb) HCH.out) Q5.out q4 (by omega)).mono ?_
      rintro r w5 ⟨v5, rfl, p5⟩
      have hp5 := Puts.over hr1 (Puts.below0 p5)
      have s5 := (show Has w5 v5 (putL putMem x.chain) from p5.has).rd
      go_wp2_with (at_builtin; refine wpList_put rfl _ _ _ _ rfl 5 i0 Try.underlying24 HI.out hz0 hz1 hz2 rfl hp5.has _ (putL putMem x.chain) rfl (s5.src Try.underlying24) (by rw [List.length_append, List.length_append]; omega) ?_; intro vq6 wq6 hq6; have hr6 := hp5.trans hq6; have hb6 := Puts.below0 hr6)
      go_roundw
      case rel => exact CatA.next2 (by rw [List.length_map]; exact hlt) (mapAt putVw HX.out) (by rw [HPT.out]; simp only [List.append_assoc]) hr6 _ (by omega)
      case measure => simp [intOf]; omega
    · go_wp2_with fail
      go_ret
      refine ⟨_, rfl, ?_⟩
      rw [List.take_of_length_le (by rw [List.length_map]; omega)] at hp
      rw [HE.out]
      exact hp

set_option maxRecDepth 100000 in
set_option maxHeartbeats 4000000 in
theorem seens_any (v0 : Value) (xs : List SnD) (w : World) (S : Nat → Prop) (h : (list rSn).rep w S xs [v0]) (hP : ∀ x ∈ xs, PSn x) (hlen : xs.length ≤ 4096) (hby : (putL putSn xs).length ≤ 1000000) :
    Calls Try.prog 80 #[v0] w (PutsTo w (.slice none 0 0) (putL putSn xs)) := by
  obtain ⟨i0, hi, hz0, hz1, hz2⟩ := info_parts info_u8
  have HI := Lib.hid hi
  have HP := Lib.hid hP
  clear hi hP
  have HE := Lib.hid (putL_eq putSn xs)
  rw [putL_eq, List.length_append] at hby
  obtain ⟨v', rows, e, hrows, hl0, a, cap, rfl, hk1, hk2, hc⟩ := h
  simp only [List.cons.injEq, and_true] at e
  subst e
  unfold maxLen at hk2
  have HROWS := Lib.hid hrows
  have HC := Lib.hid hc
  have HL0 := Lib.hid hl0
  clear hrows hc hl0
  go_enter Try.func80, Try.ntmps80
  go_wp2_with fail
  refine (rint_any _ _ (by omega) (by omega)).mono ?_
  rintro r w1 ⟨v1, rfl, p1⟩
  rw [List.nil_append] at p1
  go_wp2_with fail
  go_loopw [3, 4] (fun v i wr => CatA w (putI xs.length) (xs.map putSn) v i wr) (fun _ i _ => xs.length - (intOf i).toNat)
  case atStart => exact ⟨0, rfl, Nat.zero_le _, by simpa using p1⟩
  case round =>
    obtain ⟨k, rfl, hk, hp⟩ := hrel
    have hk' : k ≤ xs.length := by simpa using hk
    clear hk
    by_cases hlt : k < xs.length
    · obtain ⟨x, hx⟩ : ∃ x, xs[k]? = some x := ⟨_, List.getElem?_eq_getElem hlt⟩
      obtain ⟨cs, hrep, hcs⟩ := HROWS.out.at hx
      have hbel := Puts.below0 hp
      have HPX := Lib.hid (HP.out x (List.mem_of_getElem? hx))
      have hle := flat_le2 (xs.map putSn) (mapAt putSn hx)
      have HX := Lib.hid hx
      clear hx
      obtain rfl : cs = cSn x := hrep
      obtain ⟨g, off, rfl, -, hg, hcell⟩ := HC.out (k * 7 + 0) _ (hcs 0 _ rfl)
      have hr : w.rangeAt g (off + k * 7) (cSn x) := fun j u hu => by
        obtain ⟨g', off', e, -, hg', hcell'⟩ := HC.out (k * 7 + j) _ (hcs j _ hu)
        simp only [Option.some.injEq, Addr.mk.injEq, and_true] at e
        obtain ⟨rfl, rfl⟩ := e
        rw [Nat.add_assoc]
        exact hcell'
      clear hcell
      have fw0 := hr 0 _ rfl
      have fw1 := hr 1 _ rfl
      have fw2 := hr 2 _ rfl
      have fw3 := hr 3 _ rfl
      have fw4 := hr 4 _ rfl
      have fw5 := hr 5 _ rfl
      have fw6 := hr 6 _ rfl
      rw [Nat.add_zero] at fw0
      clear hr
      have q := HPX.out
      unfold PSn at q
      obtain ⟨q0, q1, q2, q3, q4, q5, -⟩ := q
      have f0 := get.fit_bounds q2.1
      have f1 := get.fit_bounds q2.2
      have T0 := Lib.hid (flt.toInt_F x.ver.1 f0.1 (by omega))
      have T1 := Lib.hid (flt.toInt_F x.ver.2 f1.1 (by omega))
      have hputx : putSn x = nums [x.sess, x.num] ++ putV2 x.ver ++ nums [x.kind, x.code] ++ putT x.res ++ putB x.has := by simp [putSn, nums, List.append_assoc]
      have HPT := Lib.hid hputx
      have hlx := hle
      rw [hputx, List.length_append, List.length_append, List.length_append, List.length_append] at hlx
      have hbit : (if x.has = true then (1 : Int) else 0) = ((if x.has then (1 : UInt8) else 0).toNat : Int) := by cases x.has <;> rfl
      have HBIT := Lib.hid hbit
      clear hputx hbit
      have hk0 : (0 : Int) ≤ k := by omega
      have hk1' : (k : Int) < xs.length := by omega
      go_wp2_with fail
      refine mix.wp_region_mix (fun x => Below w.heap.size w x) mix.noOper [([0, 1, 2, 3, 4, 5, 6, 7, 8, 9, 10], 11), ([], 12), ([], 13)] [14] (by kernel_rfl) (by kernel_rfl) (fun _ _ _ d _ h => by cases d <;> exact h) ?_ ?_
      · exact hbel.drew
      rw [mix.wpMix_cons]
      simp only [List.map_cons, List.map_nil, List.getD_cons_succ, List.getD_cons_zero]
      refine BigFrame.wpQuiet_want rfl (fun K hK => ?_)
      refine entref.quiet_val (u3) (fun x hx => by have hc0 := (hx.cell (p := ⟨g, off + k * 7, none⟩) hg).trans fw0; have hc1 := (hx.cell (p := ⟨g, off + k * 7 + 1, none⟩) hg).trans fw1; go_simp) (hK _ ?_)
      clear hK K
      simp only [Act.put, List.setIfInBounds_toArray, List.set_cons_zero, List.set_cons_succ]
      refine BigFrame.wpQuiet_want rfl (fun K hK => ?_)
      refine entref.quiet_val (.slice (some ⟨g, off, none⟩) xs.length cap) (fun x hx => by have hc0 := (hx.cell (p := ⟨g, off + k * 7, none⟩) hg).trans fw0; have hc1 := (hx.cell (p := ⟨g, off + k * 7 + 1, none⟩) hg).trans fw1; go_simp) (hK _ ?_)
      clear hK K
      simp only [Act.put, List.setIfInBounds_toArray, List.set_cons_zero, List.set_cons_succ]
      refine BigFrame.wpQuiet_want rfl (fun K hK => ?_)
      refine entref.quiet_val (.int .i64 k) (fun x hx => by have hc0 := (hx.cell (p := ⟨g, off + k * 7, none⟩) hg).trans fw0; have hc1 := (hx.cell (p := ⟨g, off + k * 7 + 1, none⟩) hg).trans fw1; go_simp) (hK _ ?_)
      clear hK K
      simp only [Act.put, List.setIfInBounds_toArray, List.set_cons_zero, List.set_cons_succ]
      refine BigFrame.wpQuiet_want rfl (fun K hK => ?_)
      refine entref.quiet_val (.pointer (some ⟨g, off + k * 7, none⟩)) (fun x hx => by have hc0 := (hx.cell (p := ⟨g, off + k * 7, none⟩) hg).trans fw0; have hc1 := (hx.cell (p := ⟨g, off + k * 7 + 1, none⟩) hg).trans fw1; go_simp) (hK _ ?_)
      clear hK K
      simp only [Act.put, List.setIfInBounds_toArray, List.set_cons_zero, List.set_cons_succ]
      refine BigFrame.wpQuiet_want rfl (fun K hK => ?_)
      refine entref.quiet_val (.pointer (some ⟨g, off + k * 7, none⟩)) (fun x hx => by have hc0 := (hx.cell (p := ⟨g, off + k * 7, none⟩) hg).trans fw0; have hc1 := (hx.cell (p := ⟨g, off + k * 7 + 1, none⟩) hg).trans fw1; go_simp) (hK _ ?_)
      clear hK K
      simp only [Act.put, List.setIfInBounds_toArray, List.set_cons_zero, List.set_cons_succ]
      refine BigFrame.wpQuiet_want rfl (fun K hK => ?_)
      refine entref.quiet_val (.int .i64 x.sess) (fun x hx => by have hc0 := (hx.cell (p := ⟨g, off + k * 7, none⟩) hg).trans fw0; have hc1 := (hx.cell (p := ⟨g, off + k * 7 + 1, none⟩) hg).trans fw1; go_simp) (hK _ ?_)
      clear hK K
      simp only [Act.put, List.setIfInBounds_toArray, List.set_cons_zero, List.set_cons_succ]
      refine BigFrame.wpQuiet_want rfl (fun K hK => ?_)
      refine entref.quiet_val (.slice (some ⟨g, off, none⟩) xs.length cap) (fun x hx => by have hc0 := (hx.cell (p := ⟨g, off + k * 7, none⟩) hg).trans fw0; have hc1 := (hx.cell (p := ⟨g, off + k * 7 + 1, none⟩) hg).trans fw1; go_simp) (hK _ ?_)
      clear hK K
      simp only [Act.put, List.setIfInBounds_toArray, List.set_cons_zero, List.set_cons_succ]
      refine BigFrame.wpQuiet_want rfl (fun K hK => ?_)
      refine entref.quiet_val (.int .i64 k) (fun x hx => by have hc0 := (hx.cell (p := ⟨g, off + k * 7, none⟩) hg).trans fw0; have hc1 := (hx.cell (p := ⟨g, off + k * 7 + 1, none⟩) hg).trans fw1; go_simp) (hK _ ?_)
      clear hK K
      simp only [Act.put, List.setIfInBounds_toArray, List.set_cons_zero, List.set_cons_succ]
      refine BigFrame.wpQuiet_want rfl (fun K hK => ?_)
      refine entref.quiet_val (.pointer (some ⟨g, off + k * 7, none⟩)) (fun x hx => by have hc0 := (hx.cell (p := ⟨g, off + k * 7, none⟩) hg).trans fw0; have hc1 := (hx.cell (p := ⟨g, off + k * 7 + 1, none⟩) hg).trans fw1; go_simp) (hK _ ?_)
      clear hK K
      simp only [Act.put, List.setIfInBounds_toArray, List.set_cons_zero, List.set_cons_succ]
      refine BigFrame.wpQuiet_want rfl (fun K hK => ?_)
      refine entref.quiet_val (.pointer (some ⟨g, off + k * 7 + 1, none⟩)) (fun x hx => by have hc0 := (hx.cell (p := ⟨g, off + k * 7, none⟩) hg).trans fw0; have hc1 := (hx.cell (p := ⟨g, off + k * 7 + 1, none⟩) hg).trans fw1; go_simp) (hK _ ?_)
      clear hK K
      simp only [Act.put, List.setIfInBounds_toArray, List.set_cons_zero, List.set_cons_succ]
      refine BigFrame.wpQuiet_want rfl (fun K hK => ?_)
      refine entref.quiet_val (.int .i64 x.num) (fun x hx => by have hc0 := (hx.cell (p := ⟨g, off + k * 7, none⟩) hg).trans fw0; have hc1 := (hx.cell (p := ⟨g, off + k * 7 + 1, none⟩) hg).trans fw1; go_simp) (hK _ ?_)
      clear hK K
      simp only [Act.put, List.setIfInBounds_toArray, List.set_cons_zero, List.set_cons_succ]
      refine wpQuiet_nil ?_
      refine mix.callAt_step (by rfl) (fun K hK => ?_)
      go_simp
      have al1 := ((Below.refl wr.heap.size wr).drew).alloc (Nat.le_refl _) (.cells #[.int .i64 x.sess, .int .i64 x.num] 3)
      have kl1 := Blk.new wr.drew [.int .i64 x.sess, .int .i64 x.num] 3
      refine hK _ _ ⟨hbel.trans (al1.mono hbel.size), ?_⟩
      clear hK K
      rw [mix.wpMix_cons]
      simp only [List.map_nil, List.getD_cons_succ, List.getD_cons_zero]
      refine wpQuiet_nil ?_
      refine mix.callAt_step (by rfl) (fun K hK => ?_)
      go_simp
      refine (numbers_any wr.heap.size 2 [x.sess, x.num] (wr.drew.alloc (.cells #[.int .i64 x.sess, .int .i64 x.num] 3)) kl1 rfl (by omega) (by simp only [List.mem_cons, List.not_mem_nil, or_false, forall_eq_or_imp, forall_eq]; exact ⟨q0, q1⟩)).mono ?_
      rintro r wn1 ⟨vn1, rfl, pn1⟩
      have hp1 := Puts.over hp (al1.trans ((Puts.below0 pn1).mono al1.size))
      have sn1 := (show Has wn1 vn1 (nums [x.sess, x.num]) from pn1.has).rd
      go_wp2_with fail
      refine ⟨(Puts.below0 hp1), ?_⟩
      rw [mix.wpMix_cons]
      simp only [List.map_nil, List.getD_cons_succ, List.getD_cons_zero]
      refine wpQuiet_nil ?_
      refine mix.callAt_step (by rfl) (fun K hK => ?_)
      refine wp_put _ _ _ _ rfl 5 i0 Try.underlying24 HI.out hz0 hz1 hz2 rfl hp1.has _ (nums [x.sess, x.num]) rfl (sn1.src Try.underlying24) (by rw [List.length_append]; omega) (fun vq1 wq1 hq1 => hK _ _ ⟨Puts.below0 (hp1.trans hq1), ?_⟩)
      clear hK K
      have hr1 := hp1.trans hq1
      have hb1 := Puts.below0 hr1
      rw [mix.wpMix_nil]
      simp only [List.map_cons, List.map_nil, List.getD_cons_succ, List.getD_cons_zero]
      refine BigFrame.wpQuiet_want rfl (fun K hK => ?_)
      refine entref.quiet_val (vq1) (fun x hx => by go_simp) (hK _ ?_)
      clear hK K
      simp only [Act.put, List.setIfInBounds_toArray, List.set_cons_zero, List.set_cons_succ]
      refine wpQuiet_nil ?_
      have f2_q1 := (hb1.cell (p := ⟨g, off + k * 7 + 2, none⟩) hg).trans fw2
      go_wp2_with fail
      refine (entref.ver_any _ _ _ _ _ T0.out T1.out (by omega) (by omega) (by omega) (by omega)).mono ?_
      rintro r w5 ⟨v5, rfl, p5⟩
      have hp5 := Puts.over hr1 (Puts.below0 p5)
      have s5 := (show Has w5 v5 (putV2 x.ver) from p5.has).rd
      go_wp2_with (at_builtin; refine wpList_put rfl _ _ _ _ rfl 5 i0 Try.underlying24 HI.out hz0 hz1 hz2 rfl hp5.has _ (putV2 x.ver) rfl (s5.src Try.underlying24) (by rw [List.length_append, List.length_append]; omega) ?_; intro vq6 wq6 hq6; have hr6 := hp5.trans hq6; have hb6 := Puts.below0 hr6)
      go_wp2_with fail
      refine mix.wp_region_mix (fun x => Below w.heap.size w x) mix.noOper [([0, 1, 2, 3, 4, 5, 6, 7, 8, 9, 10], 11), ([], 12), ([], 13)] [14] (by kernel_rfl) (by kernel_rfl) (fun _ _ _ d _ h => by cases d <;> exact h) ?_ ?_
      · exact hb6.drew
      rw [mix.wpMix_cons]
      simp only [List.map_cons, List.map_nil, List.getD_cons_succ, List.getD_cons_zero]
      refine BigFrame.wpQuiet_want rfl (fun K hK => ?_)
      refine entref.quiet_val (vq6) (fun x hx => by have hc3 := (hx.cell (p := ⟨g, off + k * 7 + 3, none⟩) hg).trans fw3; have hc4 := (hx.cell (p := ⟨g, off + k * 7 + 4, none⟩) hg).trans fw4; go_simp) (hK _ ?_)
      clear hK K
      simp only [Act.put, List.setIfInBounds_toArray, List.set_cons_zero, List.set_cons_succ]
      refine BigFrame.wpQuiet_want rfl (fun K hK => ?_)
      refine entref.quiet_val (.slice (some ⟨g, off, none⟩) xs.length cap) (fun x hx => by have hc3 := (hx.cell (p := ⟨g, off + k * 7 + 3, none⟩) hg).trans fw3; have hc4 := (hx.cell (p := ⟨g, off + k * 7 + 4, none⟩) hg).trans fw4; go_simp) (hK _ ?_)
      clear hK K
      simp only [Act.put, List.setIfInBounds_toArray, List.set_cons_zero, List.set_cons_succ]
      refine BigFrame.wpQuiet_want rfl (fun K hK => ?_)
      refine entref.quiet_val (.int .i64 k) (fun x hx => by have hc3 := (hx.cell (p := ⟨g, off + k * 7 + 3, none⟩) hg).trans fw3; have hc4 := (hx.cell (p := ⟨g, off + k * 7 + 4, none⟩) hg).trans fw4; go_simp) (hK _ ?_)
      clear hK K
      simp only [Act.put, List.setIfInBounds_toArray, List.set_cons_zero, List.set_cons_succ]
      refine BigFrame.wpQuiet_want rfl (fun K hK => ?_)
      refine entref.quiet_val (.pointer (some ⟨g, off + k * 7, none⟩)) (fun x hx => by have hc3 := (hx.cell (p := ⟨g, off + k * 7 + 3, none⟩) hg).trans fw3; have hc4 := (hx.cell (p := ⟨g, off + k * 7 + 4, none⟩) hg).trans fw4; go_simp) (hK _ ?_)
      clear hK K
      simp only [Act.put, List.setIfInBounds_toArray, List.set_cons_zero, List.set_cons_succ]
      refine BigFrame.wpQuiet_want rfl (fun K hK => ?_)
      refine entref.quiet_val (.pointer (some ⟨g, off + k * 7 + 3, none⟩)) (fun x hx => by have hc3 := (hx.cell (p := ⟨g, off + k * 7 + 3, none⟩) hg).trans fw3; have hc4 := (hx.cell (p := ⟨g, off + k * 7 + 4, none⟩) hg).trans fw4; go_simp) (hK _ ?_)
      clear hK K
      simp only [Act.put, List.setIfInBounds_toArray, List.set_cons_zero, List.set_cons_succ]
      refine BigFrame.wpQuiet_want rfl (fun K hK => ?_)
      refine entref.quiet_val (.int .i64 x.kind) (fun x hx => by have hc3 := (hx.cell (p := ⟨g, off + k * 7 + 3, none⟩) hg).trans fw3; have hc4 := (hx.cell (p := ⟨g, off + k * 7 + 4, none⟩) hg).trans fw4; go_simp) (hK _ ?_)
      clear hK K
      simp only [Act.put, List.setIfInBounds_toArray, List.set_cons_zero, List.set_cons_succ]
      refine BigFrame.wpQuiet_want rfl (fun K hK => ?_)
      refine entref.quiet_val (.slice (some ⟨g, off, none⟩) xs.length cap) (fun x hx => by have hc3 := (hx.cell (p := ⟨g, off + k * 7 + 3, none⟩) hg).trans fw3; have hc4 := (hx.cell (p := ⟨g, off + k * 7 + 4, none⟩) hg).trans fw4; go_simp) (hK _ ?_)
      clear hK K
      simp only [Act.put, List.setIfInBounds_toArray, List.set_cons_zero, List.set_cons_succ]
      refine BigFrame.wpQuiet_want rfl (fun K hK => ?_)
      refine entref.quiet_val (.int .i64 k) (fun x hx => by have hc3 := (hx.cell (p := ⟨g, off + k * 7 + 3, none⟩) hg).trans fw3; have hc4 := (hx.cell (p := ⟨g, off + k * 7 + 4, none⟩) hg).trans fw4; go_simp) (hK _ ?_)
      clear hK K
      simp only [Act.put, List.setIfInBounds_toArray, List.set_cons_zero, List.set_cons_succ]
      refine BigFrame.wpQuiet_want rfl (fun K hK => ?_)
      refine entref.quiet_val (.pointer (some ⟨g, off + k * 7, none⟩)) (fun x hx => by have hc3 := (hx.cell (p := ⟨g, off + k * 7 + 3, none⟩) hg).trans fw3; have hc4 := (hx.cell (p := ⟨g, off + k * 7 + 4, none⟩) hg).trans fw4; go_simp) (hK _ ?_)
      clear hK K
      simp only [Act.put, List.setIfInBounds_toArray, List.set_cons_zero, List.set_cons_succ]
      refine BigFrame.wpQuiet_want rfl (fun K hK => ?_)
      refine entref.quiet_val (.pointer (some ⟨g, off + k * 7 + 4, none⟩)) (fun x hx => by have hc3 := (hx.cell (p := ⟨g, off + k * 7 + 3, none⟩) hg).trans fw3; have hc4 := (hx.cell (p := ⟨g, off + k * 7 + 4, none⟩) hg).trans fw4; go_simp) (hK _ ?_)
      clear hK K
      simp only [Act.put, List.setIfInBounds_toArray, List.set_cons_zero, List.set_cons_succ]
      refine BigFrame.wpQuiet_want rfl (fun K hK => ?_)
      refine entref.quiet_val (.int .i64 x.code) (fun x hx => by have hc3 := (hx.cell (p := ⟨g, off + k * 7 + 3, none⟩) hg).trans fw3; have hc4 := (hx.cell (p := ⟨g, off + k * 7 + 4, none⟩) hg).trans fw4; go_simp) (hK _ ?_)
      clear hK K
      simp only [Act.put, List.setIfInBounds_toArray, List.set_cons_zero, List.set_cons_succ]
      refine wpQuiet_nil ?_
      refine mix.callAt_step (by rfl) (fun K hK => ?_)
      go_simp
      have al7 := ((Below.refl wq6.heap.size wq6).drew).alloc (Nat.le_refl _) (.cells #[.int .i64 x.kind, .int .i64 x.code] 3)
      have kl7 := Blk.new wq6.drew [.int .i64 x.kind, .int .i64 x.code] 3
      refine hK _ _ ⟨hb6.trans (al7.mono hb6.size), ?_⟩
      clear hK K
      rw [mix.wpMix_cons]
      simp only [List.map_nil, List.getD_cons_succ, List.getD_cons_zero]
      refine wpQuiet_nil ?_
      refine mix.callAt_step (by rfl) (fun K hK => ?_)
      go_simp
      refine (numbers_any wq6.heap.size 2 [x.kind, x.code] (wq6.drew.alloc (.cells #[.int .i64 x.kind, .int .i64 x.code] 3)) kl7 rfl (by omega) (by simp only [List.mem_cons, List.not_mem_nil, or_false, forall_eq_or_imp, forall_eq]; exact ⟨q3, q4⟩)).mono ?_
      rintro r wn7 ⟨vn7, rfl, pn7⟩
      have hp7 := Puts.over hr6 (al7.trans ((Puts.below0 pn7).mono al7.size))
      have sn7 := (show Has wn7 vn7 (nums [x.kind, x.code]) from pn7.has).rd
      go_wp2_with fail
      refine ⟨(Puts.below0 hp7), ?_⟩
      rw [mix.wpMix_cons]
      simp only [List.map_nil, List.getD_cons_succ, List.getD_cons_zero]
      refine wpQuiet_nil ?_
      refine mix.callAt_step (by rfl) (fun K hK => ?_)
      refine wp_put _ _ _ _ rfl 5 i0 Try.underlying24 HI.out hz0 hz1 hz2 rfl hp7.has _ (nums [x.kind, x.code]) rfl (sn7.src Try.underlying24) (by rw [List.length_append, List.length_append, List.length_append]; omega) (fun vq7 wq7 hq7 => hK _ _ ⟨Puts.below0 (hp7.trans hq7), ?_⟩)
      clear hK K
      have hr7 := hp7.trans hq7
      have hb7 := Puts.below0 hr7
      rw [mix.wpMix_nil]
      simp only [List.map_cons, List.map_nil, List.getD_cons_succ, List.getD_cons_zero]
      refine BigFrame.wpQuiet_want rfl (fun K hK => ?_)
      refine entref.quiet_val (vq7) (fun x hx => by go_simp) (hK _ ?_)
      clear hK K
      simp only [Act.put, List.setIfInBounds_toArray, List.set_cons_zero, List.set_cons_succ]
      refine wpQuiet_nil ?_
      have f5_q7 := (hb7.cell (p := ⟨g, off + k * 7 + 5, none⟩) hg).trans fw5
      go_wp2_with fail
      refine (rtext_any _ _ (tsz2 q5)).mono ?_
      rintro r w8 ⟨v8, rfl, p8⟩
      rw [List.nil_append] at p8
      have hp8 := Puts.over hr7 (Puts.below0 p8)
      have s8 := (show Has w8 v8 (putT x.res) from p8.has).rd
      go_wp2_with (at_builtin; refine wpList_put rfl _ _ _ _ rfl 5 i0 Try.underlying24 HI.out hz0 hz1 hz2 rfl hp8.has _ (putT x.res) rfl (s8.src Try.underlying24) (by rw [List.length_append, List.length_append, List.length_append, List.length_append]; omega) ?_; intro vq9 wq9 hq9; have hr9 := hp8.trans hq9; have hb9 := Puts.below0 hr9; have f6_q9 := (hb9.cell (p := ⟨g, off + k * 7 + 6, none⟩) hg).trans fw6)
      refine (bit6_any _ _).mono ?_
      rintro r wz ⟨rfl, rfl⟩
      have alB := (Below.refl wq9.heap.size wq9).alloc (Nat.le_refl _) (.cells #[.int .u8 (if x.has = true then 1 else 0)] 5)
      have hpB := Puts.over hr9 alB
      have sB := Rd.byte wq9 (if x.has then 1 else 0) _ HBIT.out 5
      go_wp2_with (at_builtin; refine wpList_put rfl _ _ _ _ rfl 5 i0 Try.underlying24 HI.out hz0 hz1 hz2 rfl hpB.has _ (putB x.has) rfl (sB.src Try.underlying24) (by have e : (putB x.has).length = 1 := rfl; rw [List.length_append, List.length_append, List.length_append, List.length_append, List.length_append]; omega) ?_; intro vq10 wq10 hq10; have hr10 := hpB.trans hq10; have hb10 := Puts.below0 hr10)
      go_roundw
      case rel => exact CatA.next2 (by rw [List.length_map]; exact hlt) (mapAt putSn HX.out) (by rw [HPT.out]; simp only [List.append_assoc]) hr10 _ (by omega)
      case measure => simp [intOf]; omega
    · go_wp2_with fail
      go_ret
      refine ⟨_, rfl, ?_⟩
      rw [List.take_of_length_le (by rw [List.length_map]; omega)] at hp
      rw [HE.out]
      exact hp

end Go.Proofs.Ytolgbnpginifkaa.mref
