/- The contracts of lockgateref06.bit, numbers and entries. -/
import Derived.Test.YtolgbnpginifkaaMInto
import Derived.Test.YtolgbnpginifkaaEntRef2
import Derived.Test.YtolgbnpginifkaaBig
import Derived.Test.YtolgbnpginifkaaMix2
namespace Go.Proofs.Ytolgbnpginifkaa.mref
open Go.ChangeShapes Go.WideShapes Go.ChangeAt Go.RowKit codec st own put ref get blk rep ent msgd entget entref minto
set_option linter.unusedVariables false

theorem numsLen (ns : List Int) (k : Nat) : (((ns.map putI).take k).flatten).length ≤ 10 * ns.length := by
  have h : ∀ (ms : List Int), ((ms.map putI).flatten).length ≤ 10 * ms.length := by
    intro ms
    induction ms with
    | nil => simp
    | cons m ms ih =>
      have := gr_len9 m
      simp only [List.map_cons, List.flatten_cons, List.length_append, List.length_cons]
      omega
  have h1 := flat_le (ns.map putI) k
  have h2 := h ns
  omega

/-- Some parts are put behind what was put first. -/
def CatA (w : World) (pre : List UInt8) (ls : List (List UInt8)) (v i : Value) (wr : World) : Prop :=
  ∃ k : Nat, i = .int .i64 k ∧ k ≤ ls.length ∧ Puts w wr (.slice none 0 0) v (pre ++ (ls.take k).flatten)
theorem CatA.next {w wr w' : World} {pre : List UInt8} {ls : List (List UInt8)} {v v' : Value} {k : Nat} {l : List UInt8} (hk : k < ls.length) (hl : ls[k]? = some l) (hp : Puts w wr (.slice none 0 0) v (pre ++ (ls.take k).flatten))
    (q : Puts wr w' v v' ((pre ++ (ls.take k).flatten) ++ l)) (z : Int) (hz : z = ((k + 1 : Nat) : Int)) : CatA w pre ls v' (.int .i64 z) w' := by
  subst hz
  refine ⟨k + 1, rfl, hk, ?_⟩
  rw [take_flat hl, ← List.append_assoc]
  exact hp.trans q
theorem Puts.over {w w1 : World} {v v' : Value} {l : List UInt8} (p : Puts w w1 v v' l) {w2 : World} (hb : Below w1.heap.size w1 w2) : Puts w w2 v v' l := p.trans (Puts.quiet p.has hb)
/-- The law of append at an operation. -/
theorem wp_put {P : Program} {w : World} {o : Oper} {a : Act} {K : Act → World → Prop} {Q : Exit → Act → World → Prop} (s x : Operand) (t tx : TypeId)
    (ho : o.op = .call { callee := .builtin .append, args := #[s, x], argTypes := #[t, tx] })
    (e : TypeId) (i : TypeInfo) (ht : P.underlying t = some (.slice e)) (hi : P.info? e = some i) (hz : i.zero = some (.int .u8 0)) (hsize : i.size = 1) (hby : i.bytes = 1)
    {v : Value} {l : List UInt8} (hv : a.eval s = v) (h : Has w v l) (xv : Value) (m : List UInt8) (hx : a.eval x = xv) (hs : Src P 1 tx xv m.length (m.map B) w) (hlen : l.length + m.length ≤ 140737488355328)
    (hK : ∀ v' w', Puts w w' v v' (l ++ m) → K (a.put o.dst v') w') : o.wp P a w K Q := by
  obtain ⟨v', w', hrun, r, f, g⟩ := run_append (P := P) t tx o.type e i (.int .u8 0) 1 1 ht hi hz hsize hby rfl h xv m.length (m.map B) hs (by simp [maxLen]; omega) (by omega)
  unfold Oper.wp
  simp [execOp, ho, resolve, invoke, builtin, hv, hx, hrun, Result.andThen]
  refine hK _ _ ⟨?_, f, g⟩
  unfold Has
  rw [List.map_append, List.length_append]
  exact r

theorem mapLen {α : Type} (f : α → List UInt8) (xs : List α) {n : Nat} (h : xs.length = n) : (xs.map f).length = n := by simp [h]
theorem mapAt {α : Type} (f : α → List UInt8) {xs : List α} {k : Nat} {x : α} (h : xs[k]? = some x) : (xs.map f)[k]? = some (f x) := by simp [h]
theorem flat_le2 (ls : List (List UInt8)) {k : Nat} {l : List UInt8} (h : ls[k]? = some l) : (ls.take k).flatten.length + l.length ≤ ls.flatten.length := by
  have := flat_le ls (k + 1)
  rw [take_flat h, List.length_append] at this
  exact this
theorem flatMap_eq {α : Type} (f : α → List UInt8) (xs : List α) : xs.flatMap f = (xs.map f).flatten := by rw [List.flatMap_def]
theorem putL_eq {α : Type} (f : α → List UInt8) (xs : List α) : putL f xs = putI xs.length ++ (xs.map f).flatten := by unfold putL; rw [flatMap_eq]

set_option maxRecDepth 100000 in
theorem bit6_any (b : Bool) (w : World) : Calls Try.prog 73 #[.bool b] w fun e w' => e = .returned (.int .u8 (if b then 1 else 0)) ∧ w = w' := by
  cases b
  all_goals
    go_enter Try.func73, Try.ntmps73
    go_wp2
    go_ret
    exact ⟨rfl, rfl⟩

set_option maxRecDepth 100000 in
theorem numbers_any (b n : Nat) (ns : List Int) (w : World) (hB : Blk w b (ns.map (.int .i64 ·))) (hn : ns.length = n) (hm : n ≤ 100) (hI : ∀ x ∈ ns, In x) :
    Calls Try.prog 72 #[.slice (some ⟨b, 0, none⟩) n n] w (PutsTo w (.slice none 0 0) (nums ns)) := by
  obtain ⟨i0, hi, hz0, hz1, hz2⟩ := info_parts info_u8
  have HI := Lib.hid hi
  have HN := Lib.hid hn
  have HIN := Lib.hid hI
  have HE := Lib.hid (flatMap_eq putI ns)
  clear hi hn hI
  have hnil := Has.nil w
  go_enter Try.func72, Try.ntmps72
  go_wp2_with fail
  go_loopw [3, 4] (fun v i wr => CatA w [] (ns.map putI) v i wr) (fun _ i _ => n - (intOf i).toNat)
  case atStart => exact ⟨0, rfl, Nat.zero_le _, Puts.refl hnil⟩
  case round =>
    obtain ⟨k, rfl, hk, hp⟩ := hrel
    have HK := Lib.hid hk
    have hk' : k ≤ n := by rw [← HN.out]; simpa using hk
    clear hk
    by_cases hc : k < n
    · obtain ⟨x, hx⟩ : ∃ x, ns[k]? = some x := ⟨_, List.getElem?_eq_getElem (by rw [HN.out]; exact hc)⟩
      have hbel := Puts.below0 hp
      have hcell := (hB.below hbel hB.lt).cell (show (ns.map (Value.int .i64 ·))[k]? = some (.int .i64 x) by simp [hx])
      have hin := HIN.out x (List.mem_of_getElem? hx)
      have hle := flat_le2 (ns.map putI) (mapAt putI hx)
      have HX := Lib.hid hx
      have HIX := Lib.hid hin
      have hlen : (((ns.map putI).take k).flatten).length ≤ 10 * n := by
        rw [← HN.out]
        exact numsLen ns k
      have hlx := gr_len9 x
      clear hx hin
      go_wp2_with fail
      refine (rint_any x _ HIX.out.1 HIX.out.2).mono ?_
      rintro r w1 ⟨v1, rfl, p1⟩
      have hb1 := Puts.below0 p1
      have hp1 := Puts.over hp hb1
      have s1 := (show Has w1 v1 ([] ++ putI x) from p1.has).rd
      go_wp2_with (at_builtin; refine wpList_put rfl _ _ _ _ rfl 5 i0 Try.underlying24 HI.out hz0 hz1 hz2 rfl hp1.has _ ([] ++ putI x) rfl (s1.src Try.underlying24) (by simp only [List.nil_append] at *; omega) ?_; intro v' w' hq)
      go_roundw
      case rel => exact CatA.next (by rw [mapLen putI ns HN.out]; exact hc) (mapAt putI HX.out) hp1 hq _ (by omega)
      case measure => simp [intOf]; omega
    · go_wp2_with fail
      go_ret
      refine ⟨_, rfl, ?_⟩
      rw [List.take_of_length_le (by rw [mapLen putI ns HN.out]; omega)] at hp
      unfold nums
      rw [HE.out]
      exact hp

set_option maxRecDepth 100000 in
set_option maxHeartbeats 4000000 in
theorem entries_any (v0 : Value) (xs : List EnD) (w : World) (S : Nat → Prop) (h : (list rE).rep w S xs [v0]) (hP : ∀ x ∈ xs, PE x) (hlen : xs.length ≤ 4096) (hby : (putL putE xs).length ≤ 1000000) :
    Calls Try.prog 74 #[v0] w (PutsTo w (.slice none 0 0) (putL putE xs)) := by
  obtain ⟨i0, hi, hz0, hz1, hz2⟩ := info_parts info_u8
  have HI := Lib.hid hi
  have HP := Lib.hid hP
  clear hi hP
  have HE := Lib.hid (putL_eq putE xs)
  rw [putL_eq, List.length_append] at hby
  obtain ⟨v', rows, e, hrows, hl0, a, cap, rfl, hk1, hk2, hc⟩ := h
  simp only [List.cons.injEq, and_true] at e
  subst e
  unfold maxLen at hk2
  have HROWS := Lib.hid hrows
  have HC := Lib.hid hc
  have HL0 := Lib.hid hl0
  clear hrows hc hl0
  go_enter Try.func74, Try.ntmps74
  go_wp2_with fail
  refine (rint_any _ _ (by omega) (by omega)).mono ?_
  rintro r w1 ⟨v1, rfl, p1⟩
  rw [List.nil_append] at p1
  go_wp2_with fail
  go_loopw [3, 4] (fun v i wr => CatA w (putI xs.length) (xs.map putE) v i wr) (fun _ i _ => xs.length - (intOf i).toNat)
  case atStart => exact ⟨0, rfl, Nat.zero_le _, by simpa using p1⟩
  case round =>
    obtain ⟨k, rfl, hk, hp⟩ := hrel
    have hk' : k ≤ xs.length := by simpa using hk
    clear hk
    by_cases hlt : k < xs.length
    · obtain ⟨x, hx⟩ : ∃ x, xs[k]? = some x := ⟨_, List.getElem?_eq_getElem hlt⟩
      obtain ⟨cs, hrep, hcs⟩ := HROWS.out.at hx
      have hbel := Puts.below0 hp
      have HPX := Lib.hid (HP.out x (List.mem_of_getElem? hx))
      have hle := flat_le2 (xs.map putE) (mapAt putE hx)
      have HX := Lib.hid hx
      clear hx
      obtain rfl : cs = cE x := hrep
      obtain ⟨g, off, rfl, -, hg, hcell⟩ := HC.out (k * 11 + 0) _ (hcs 0 _ rfl)
      have hr : wr.rangeAt g (off + k * 11) (cE x) := fun j u hu => by
        obtain ⟨g', off', e, -, hg', hcell'⟩ := HC.out (k * 11 + j) _ (hcs j _ hu)
        simp only [Option.some.injEq, Addr.mk.injEq, and_true] at e
        obtain ⟨rfl, rfl⟩ := e
        rw [hbel.cell hg', Nat.add_assoc]
        exact hcell'
      clear hcell
      have f0 := hr 0 _ rfl
      have f1 := hr 1 _ rfl
      have f2 := hr 2 _ rfl
      have f3 := hr 3 _ rfl
      have f4 := hr 4 _ rfl
      have f5 := hr 5 _ rfl
      have f6 := hr 6 _ rfl
      have f7 := hr 7 _ rfl
      have f8 := hr 8 _ rfl
      have f9 := hr 9 _ rfl
      have f10 := hr 10 _ rfl
      rw [Nat.add_zero] at f0
      clear hr
      clear hcs
      obtain ⟨q0, q1, q2, q3, q4, q5, q6, q7, q8⟩ := HPX.out
      go_wp2_with fail
      refine (entref.ent_any x _ q0 q1 q2 q3 q4 q5 q6 q7 q8).mono ?_
      rintro r w2 ⟨v2, rfl, p2⟩
      have hb2 := Puts.below0 p2
      have hp2 := Puts.over hp hb2
      have s2 := (show Has w2 v2 (putE x) from p2.has).rd
      clear q0 q1 q2 q3 q4 q5 q6 q7 q8
      go_wp2_with (at_builtin; refine wpList_put rfl _ _ _ _ rfl 5 i0 Try.underlying24 HI.out hz0 hz1 hz2 rfl hp2.has _ (putE x) rfl (s2.src Try.underlying24) (by rw [List.length_append]; omega) ?_; intro v' w' hq)
      go_roundw
      case rel => exact CatA.next (by rw [List.length_map]; exact hlt) (mapAt putE HX.out) hp2 hq _ (by omega)
      case measure => simp [intOf]; omega
    · go_wp2_with fail
      go_ret
      refine ⟨_, rfl, ?_⟩
      rw [List.take_of_length_le (by rw [List.length_map]; omega)] at hp
      rw [HE.out]
      exact hp

set_option maxRecDepth 100000 in
set_option maxHeartbeats 4000000 in
theorem members_any (v0 : Value) (xs : List MemD) (w : World) (S : Nat → Prop) (h : (list rMem).rep w S xs [v0]) (hP : ∀ x ∈ xs, PMem x) (hlen : xs.length ≤ 4096) (hby : (putL putMem xs).length ≤ 1000000) :
    Calls Try.prog 75 #[v0] w (PutsTo w (.slice none 0 0) (putL putMem xs)) := by
  obtain ⟨i0, hi, hz0, hz1, hz2⟩ := info_parts info_u8
  have HI := Lib.hid hi
  have HP := Lib.hid hP
  clear hi hP
  have HE := Lib.hid (putL_eq putMem xs)
  rw [putL_eq, List.length_append] at hby
  obtain ⟨v', rows, e, hrows, hl0, a, cap, rfl, hk1, hk2, hc⟩ := h
  simp only [List.cons.injEq, and_true] at e
  subst e
  unfold maxLen at hk2
  have HROWS := Lib.hid hrows
  have HC := Lib.hid hc
  have HL0 := Lib.hid hl0
  clear hrows hc hl0
  go_enter Try.func75, Try.ntmps75
  go_wp2_with fail
  refine (rint_any _ _ (by omega) (by omega)).mono ?_
  rintro r w1 ⟨v1, rfl, p1⟩
  rw [List.nil_append] at p1
  go_wp2_with fail
  go_loopw [3, 4] (fun v i wr => CatA w (putI xs.length) (xs.map putMem) v i wr) (fun _ i _ => xs.length - (intOf i).toNat)
  case atStart => exact ⟨0, rfl, Nat.zero_le _, by simpa using p1⟩
  case round =>
    obtain ⟨k, rfl, hk, hp⟩ := hrel
    have hk' : k ≤ xs.length := by simpa using hk
    clear hk
    by_cases hlt : k < xs.length
    · obtain ⟨x, hx⟩ : ∃ x, xs[k]? = some x := ⟨_, List.getElem?_eq_getElem hlt⟩
      obtain ⟨cs, hrep, hcs⟩ := HROWS.out.at hx
      have hbel := Puts.below0 hp
      have HPX := Lib.hid (HP.out x (List.mem_of_getElem? hx))
      have hle := flat_le2 (xs.map putMem) (mapAt putMem hx)
      have HX := Lib.hid hx
      clear hx
      obtain rfl : cs = cMem x := hrep
      obtain ⟨g, off, rfl, -, hg, hcell⟩ := HC.out (k * 2 + 0) _ (hcs 0 _ rfl)
      have hr : wr.rangeAt g (off + k * 2) (cMem x) := fun j u hu => by
        obtain ⟨g', off', e, -, hg', hcell'⟩ := HC.out (k * 2 + j) _ (hcs j _ hu)
        simp only [Option.some.injEq, Addr.mk.injEq, and_true] at e
        obtain ⟨rfl, rfl⟩ := e
        rw [hbel.cell hg', Nat.add_assoc]
        exact hcell'
      clear hcell
      have f0 := hr 0 _ rfl
      have f1 := hr 1 _ rfl
      rw [Nat.add_zero] at f0
      clear hr
      clear hcs
      have q := HPX.out
      unfold PMem at q
      have fw0 := (hbel.cell (p := ⟨g, off + k * 2, none⟩) hg).symm.trans f0
      have fw1 := (hbel.cell (p := ⟨g, off + k * 2 + 1, none⟩) hg).symm.trans f1
      have hk0 : (0 : Int) ≤ k := by omega
      have hk1' : (k : Int) < xs.length := by omega
      go_wp2_with fail
      refine mix.wp_region_mix (fun x => Below w.heap.size w x) mix.noOper [([0, 1, 2, 3, 4, 5, 6, 7, 8, 9, 10], 11), ([], 12), ([], 13)] [14] (by kernel_rfl) (by kernel_rfl) (fun _ _ _ d _ h => by cases d <;> exact h) ?_ ?_
      · exact hbel.drew
      rw [mix.wpMix_cons]
      simp only [List.map_cons, List.map_nil, List.getD_cons_succ, List.getD_cons_zero]
      refine BigFrame.wpQuiet_want rfl (fun K hK => ?_)
      refine entref.quiet_val (u3) (fun x hx => by have hc0 := (hx.cell (p := ⟨g, off + k * 2, none⟩) hg).trans fw0; have hc1 := (hx.cell (p := ⟨g, off + k * 2 + 1, none⟩) hg).trans fw1; go_simp) (hK _ ?_)
      clear hK K
      simp only [Act.put, List.setIfInBounds_toArray, List.set_cons_zero, List.set_cons_succ]
      refine BigFrame.wpQuiet_want rfl (fun K hK => ?_)
      refine entref.quiet_val (.slice (some ⟨g, off, none⟩) xs.length cap) (fun x hx => by have hc0 := (hx.cell (p := ⟨g, off + k * 2, none⟩) hg).trans fw0; have hc1 := (hx.cell (p := ⟨g, off + k * 2 + 1, none⟩) hg).trans fw1; go_simp) (hK _ ?_)
      clear hK K
      simp only [Act.put, List.setIfInBounds_toArray, List.set_cons_zero, List.set_cons_succ]
      refine BigFrame.wpQuiet_want rfl (fun K hK => ?_)
      refine entref.quiet_val (.int .i64 k) (fun x hx => by have hc0 := (hx.cell (p := ⟨g, off + k * 2, none⟩) hg).trans fw0; have hc1 := (hx.cell (p := ⟨g, off + k * 2 + 1, none⟩) hg).trans fw1; go_simp) (hK _ ?_)
      clear hK K
      simp only [Act.put, List.setIfInBounds_toArray, List.set_cons_zero, List.set_cons_succ]
      refine BigFrame.wpQuiet_want rfl (fun K hK => ?_)
      refine entref.quiet_val (.pointer (some ⟨g, off + k * 2, none⟩)) (fun x hx => by have hc0 := (hx.cell (p := ⟨g, off + k * 2, none⟩) hg).trans fw0; have hc1 := (hx.cell (p := ⟨g, off + k * 2 + 1, none⟩) hg).trans fw1; go_simp) (hK _ ?_)
      clear hK K
      simp only [Act.put, List.setIfInBounds_toArray, List.set_cons_zero, List.set_cons_succ]
      refine BigFrame.wpQuiet_want rfl (fun K hK => ?_)
      refine entref.quiet_val (.pointer (some ⟨g, off + k * 2, none⟩)) (fun x hx => by have hc0 := (hx.cell (p := ⟨g, off + k * 2, none⟩) hg).trans fw0; have hc1 := (hx.cell (p := ⟨g, off + k * 2 + 1, none⟩) hg).trans fw1; go_simp) (hK _ ?_)
      clear hK K
      simp only [Act.put, List.setIfInBounds_toArray, List.set_cons_zero, List.set_cons_succ]
      refine BigFrame.wpQuiet_want rfl (fun K hK => ?_)
      refine entref.quiet_val (.int .i64 x.node) (fun x hx => by have hc0 := (hx.cell (p := ⟨g, off + k * 2, none⟩) hg).trans fw0; have hc1 := (hx.cell (p := ⟨g, off + k * 2 + 1, none⟩) hg).trans fw1; go_simp) (hK _ ?_)
      clear hK K
      simp only [Act.put, List.setIfInBounds_toArray, List.set_cons_zero, List.set_cons_succ]
      refine BigFrame.wpQuiet_want rfl (fun K hK => ?_)
      refine entref.quiet_val (.slice (some ⟨g, off, none⟩) xs.length cap) (fun x hx => by have hc0 := (hx.cell (p := ⟨g, off + k * 2, none⟩) hg).trans fw0; have hc1 := (hx.cell (p := ⟨g, off + k * 2 + 1, none⟩) hg).trans fw1; go_simp) (hK _ ?_)
      clear hK K
      simp only [Act.put, List.setIfInBounds_toArray, List.set_cons_zero, List.set_cons_succ]
      refine BigFrame.wpQuiet_want rfl (fun K hK => ?_)
      refine entref.quiet_val (.int .i64 k) (fun x hx => by have hc0 := (hx.cell (p := ⟨g, off + k * 2, none⟩) hg).trans fw0; have hc1 := (hx.cell (p := ⟨g, off + k * 2 + 1, none⟩) hg).trans fw1; go_simp) (hK _ ?_)
      clear hK K
      simp only [Act.put, List.setIfInBounds_toArray, List.set_cons_zero, List.set_cons_succ]
      refine BigFrame.wpQuiet_want rfl (fun K hK => ?_)
      refine entref.quiet_val (.pointer (some ⟨g, off + k * 2, none⟩)) (fun x hx => by have hc0 := (hx.cell (p := ⟨g, off + k * 2, none⟩) hg).trans fw0; have hc1 := (hx.cell (p := ⟨g, off + k * 2 + 1, none⟩) hg).trans fw1; go_simp) (hK _ ?_)
      clear hK K
      simp only [Act.put, List.setIfInBounds_toArray, List.set_cons_zero, List.set_cons_succ]
      refine BigFrame.wpQuiet_want rfl (fun K hK => ?_)
      refine entref.quiet_val (.pointer (some ⟨g, off + k * 2 + 1, none⟩)) (fun x hx => by have hc0 := (hx.cell (p := ⟨g, off + k * 2, none⟩) hg).trans fw0; have hc1 := (hx.cell (p := ⟨g, off + k * 2 + 1, none⟩) hg).trans fw1; go_simp) (hK _ ?_)
      clear hK K
      simp only [Act.put, List.setIfInBounds_toArray, List.set_cons_zero, List.set_cons_succ]
      refine BigFrame.wpQuiet_want rfl (fun K hK => ?_)
      refine entref.quiet_val (.int .i64 x.boot) (fun x hx => by have hc0 := (hx.cell (p := ⟨g, off + k * 2, none⟩) hg).trans fw0; have hc1 := (hx.cell (p := ⟨g, off + k * 2 + 1, none⟩) hg).trans fw1; go_simp) (hK _ ?_)
      clear hK K
      simp only [Act.put, List.setIfInBounds_toArray, List.set_cons_zero, List.set_cons_succ]
      refine wpQuiet_nil ?_
      refine mix.callAt_step (by rfl) (fun K hK => ?_)
      go_simp
      have al := ((Below.refl wr.heap.size wr).drew).alloc (Nat.le_refl _) (.cells #[.int .i64 x.node, .int .i64 x.boot] 3)
      have kl := Blk.new wr.drew [.int .i64 x.node, .int .i64 x.boot] 3
      refine hK _ _ ⟨hbel.trans (al.mono hbel.size), ?_⟩
      clear hK K
      rw [mix.wpMix_cons]
      simp only [List.map_nil, List.getD_cons_succ, List.getD_cons_zero]
      refine wpQuiet_nil ?_
      refine mix.callAt_step (by rfl) (fun K hK => ?_)
      go_simp
      refine (numbers_any wr.heap.size 2 [x.node, x.boot] (wr.drew.alloc (.cells #[.int .i64 x.node, .int .i64 x.boot] 3)) kl rfl (by omega) (by simp only [List.mem_cons, List.not_mem_nil, or_false, forall_eq_or_imp, forall_eq]; exact q)).mono ?_
      rintro r w2 ⟨v2, rfl, p2⟩
      have hb2 := Puts.below0 p2
      have hp2 := Puts.over hp (al.trans (hb2.mono al.size))
      have s2 := (show Has w2 v2 (nums [x.node, x.boot]) from p2.has).rd
      go_wp2_with fail
      refine ⟨(Puts.below0 hp2), ?_⟩
      rw [mix.wpMix_cons]
      simp only [List.map_nil, List.getD_cons_succ, List.getD_cons_zero]
      refine wpQuiet_nil ?_
      refine mix.callAt_step (by rfl) (fun K hK => ?_)
      refine wp_put _ _ _ _ rfl 5 i0 Try.underlying24 HI.out hz0 hz1 hz2 rfl hp2.has _ (nums [x.node, x.boot]) rfl (s2.src Try.underlying24) (by rw [List.length_append]; have e : (nums [x.node, x.boot]) = putMem x := (by simp [nums, putMem]); rw [e]; omega) (fun v' w' hq => hK _ _ ⟨Puts.below0 (hp2.trans hq), ?_⟩)
      clear hK K
      rw [mix.wpMix_nil]
      simp only [List.map_cons, List.map_nil, List.getD_cons_succ, List.getD_cons_zero]
      refine BigFrame.wpQuiet_want rfl (fun K hK => ?_)
      refine entref.quiet_val (v') (fun x hx => by go_simp) (hK _ ?_)
      clear hK K
      simp only [Act.put, List.setIfInBounds_toArray, List.set_cons_zero, List.set_cons_succ]
      refine wpQuiet_nil ?_
      rw [show (nums [x.node, x.boot]) = putMem x by simp [nums, putMem]] at hq
      go_wp2_with fail
      go_roundw
      case rel => exact CatA.next (by rw [List.length_map]; exact hlt) (mapAt putMem HX.out) hp2 hq _ (by omega)
      case measure => simp [intOf]; omega
    · go_wp2_with fail
      go_ret
      refine ⟨_, rfl, ?_⟩
      rw [List.take_of_length_le (by rw [List.length_map]; omega)] at hp
      rw [HE.out]
      exact hp

end Go.Proofs.Ytolgbnpginifkaa.mref
