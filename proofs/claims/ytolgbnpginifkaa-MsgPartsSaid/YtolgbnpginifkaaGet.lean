/- The contracts of package wire's readers: what stands at a place, the world left as it is. -/
import Derived.Test.YtolgbnpginifkaaGroups
namespace Go.Proofs.Ytolgbnpginifkaa.get
open Go.ChangeShapes Go.WideShapes Go.ChangeAt Go.RowKit codec st groups
set_option linter.unusedVariables false

def vI : Option (Int × Nat) → Value
  | none => .tuple #[.int .i64 0, .int .i64 0, .bool false]
  | some p => .tuple #[.int .i64 p.1, .int .i64 (p.2 : Int), .bool true]
def vB : Option (Bool × Nat) → Value
  | none => .tuple #[.bool false, .int .i64 0, .bool false]
  | some p => .tuple #[.bool p.1, .int .i64 (p.2 : Int), .bool true]
def vT : Option (List UInt8 × Nat) → Value
  | none => .tuple #[.string ⟨#[]⟩, .int .i64 0, .bool false]
  | some p => .tuple #[.string ⟨p.1.toArray⟩, .int .i64 (p.2 : Int), .bool true]
def vV : Option ((Int × Int) × Nat) → Value
  | none => .tuple #[.complex .f64 0 0, .int .i64 0, .bool false]
  | some p => .tuple #[.complex .f64 (flt.F p.1.1) (flt.F p.1.2), .int .i64 (p.2 : Int), .bool true]

theorem rd_small {l : List UInt8} {at_ m n : Nat} (h : rd 0 (l.drop at_) = some (m, n)) : m < 18446744073709551616 ∧ 0 < n ∧ at_ + n ≤ l.length := by
  obtain ⟨h1, h2, h3, _⟩ := rd_back _ 0 m n (by omega) h
  rw [List.length_drop] at h3
  exact ⟨h1, h2, by omega⟩

theorem and1 (m : Nat) (h : m < 18446744073709551616) : bits .and .u64 (m : Int) 1 = (m : Int) % 2 := by
  rw [u64_and _ _ (by omega) (by omega) (by omega) (by omega)]
  have : ((m : Int).toNat &&& (1 : Int).toNat) = m % 2 := nat_mask1 m
  rw [this]
  rfl

set_option maxRecDepth 100000 in
theorem int_any (v : Value) (l : List UInt8) (at_ : Nat) (w : World) (hR : Rd w v l) (ha : at_ ≤ 9223372036854775000) (hl : l.length ≤ 9223372036854775000) :
    Calls Try.prog 16 #[v, .int .i64 at_] w fun e w' => e = .returned (vI (getI l at_)) ∧ w = w' := by
  have G := groups_any v l at_ w hR ha hl
  cases hr : rd 0 (l.drop at_) with
  | none =>
    have hg : Hid (getI l at_ = none) := Lib.hid (by unfold getI; rw [hr]; rfl)
    rw [hr] at G
    clear hr
    go_enter Try.func16, Try.ntmps16
    go_wp2_with fail
    refine G.mono ?_
    rintro r w' ⟨rfl, rfl⟩
    simp only [gv]
    go_wp2_with fail
    go_ret3
    exact ⟨by rw [hg.out]; rfl, rfl⟩
  | some p =>
    obtain ⟨m, n⟩ := p
    obtain ⟨b1, b2, b3⟩ := rd_small hr
    have hg : Hid (getI l at_ = some (unzig m, at_ + n)) := Lib.hid (by unfold getI; rw [hr]; rfl)
    rw [hr] at G
    clear hr
    have e1 := and1 m b1
    by_cases hm : m % 2 = 1
    · have hq : ((m : Int) % 2 == 1) = true := by simp; omega
      have hu : Hid (unzig m = -((m : Int) / 2) - 1) := Lib.hid (by unfold unzig; rw [if_pos hm]; omega)
      clear hm
      go_enter Try.func16, Try.ntmps16
      go_wp2_with fail
      refine G.mono ?_
      rintro r w' ⟨rfl, rfl⟩
      simp only [gv]
      go_wp2_with fail
      go_ret3
      exact ⟨by rw [hg.out, vI, hu.out]; rfl, rfl⟩
    · have hq : ((m : Int) % 2 == 1) = false := by simp; omega
      have hu : Hid (unzig m = (m : Int) / 2) := Lib.hid (by unfold unzig; rw [if_neg hm]; omega)
      clear hm
      go_enter Try.func16, Try.ntmps16
      go_wp2_with fail
      refine G.mono ?_
      rintro r w' ⟨rfl, rfl⟩
      simp only [gv]
      go_wp2_with fail
      go_ret3
      exact ⟨by rw [hg.out, vI, hu.out]; rfl, rfl⟩

set_option maxRecDepth 100000 in
theorem bool_any (v : Value) (l : List UInt8) (at_ : Nat) (w : World) (hR : Rd w v l) (ha : at_ ≤ 9223372036854775000) (hl : l.length ≤ 9223372036854775000) :
    Calls Try.prog 29 #[v, .int .i64 at_] w fun e w' => e = .returned (vB (getB l at_)) ∧ w = w' := by
  obtain ⟨a1, c1, rfl, k1, m1, f1⟩ := hR
  unfold maxLen at m1
  by_cases hlt : at_ < l.length
  · obtain ⟨c, hc⟩ : ∃ c, l[at_]? = some c := ⟨_, List.getElem?_eq_getElem hlt⟩
    obtain ⟨x, rfl, g⟩ := f1 _ c hc
    unfold B at g
    clear f1
    by_cases h1 : c.toNat ≤ 1
    · have hg : Hid (getB l at_ = some (c.toNat == 1, at_ + 1)) := Lib.hid (by unfold getB; rw [hc]; simp only; rw [if_pos h1])
      by_cases h2 : c.toNat = 1
      · have hq : ((c.toNat : Int) == 1) = true := by simp [h2]
        have H2 := Lib.hid h2
        clear hc h2
        go_enter Try.func29, Try.ntmps29
        go_wp2_with fail
        go_ret3
        exact ⟨by rw [hg.out, vB, H2.out]; rfl, rfl⟩
      · have hq : ((c.toNat : Int) == 1) = false := by simp; omega
        have H2 : Hid ((c.toNat == 1) = false) := Lib.hid (by simp [h2])
        clear hc h2
        go_enter Try.func29, Try.ntmps29
        go_wp2_with fail
        go_ret3
        exact ⟨by rw [hg.out, vB]; simp only [H2.out]; rfl, rfl⟩
    · have hg : Hid (getB l at_ = none) := Lib.hid (by unfold getB; rw [hc]; simp only; rw [if_neg h1])
      clear hc
      go_enter Try.func29, Try.ntmps29
      go_wp2_with fail
      go_ret3
      exact ⟨by rw [hg.out]; rfl, rfl⟩
  · have hg : Hid (getB l at_ = none) := Lib.hid (by unfold getB; rw [List.getElem?_eq_none (by omega)])
    clear f1
    go_enter Try.func29, Try.ntmps29
    go_wp2_with fail
    go_ret3
    exact ⟨by rw [hg.out]; rfl, rfl⟩

/-- string(b[..]): the bytes' text. -/
theorem run_str {P : Program} (w : World) {src dst e : TypeId} (hs : P.underlying src = some (.slice e)) (he : P.underlying e = some (.int .u8)) (hd : P.underlying dst = some .string)
    (a : Option Addr) (n cap : Nat) (m : List UInt8) (hlen : m.length = n) (hc : ∀ i c, m[i]? = some c → ∃ x, a = some x ∧ w.cell? (x.add i) = some (B c)) :
    (convert src dst (.slice a n cap)).run P w = .ok (.string ⟨m.toArray⟩) w := by
  rcases a with _ | x
  · have hm : m = [] := by
      rcases m with _ | ⟨c, r⟩
      · rfl
      · obtain ⟨x, hx, _⟩ := hc 0 c rfl
        cases hx
    subst hm
    exact run_convert_bytes_nil w src e hs he n cap dst hd
  · subst hlen
    have hl : (loadCells x m.length).run P w = .ok ((m.map fun c => (c.toNat : Int)).map (Value.int .u8)).toArray w := by
      have := run_loadCells_list (P := P) w x ((m.map fun c => (c.toNat : Int)).map (Value.int .u8)) (fun j v hj => by
        rw [List.map_map, List.getElem?_map] at hj
        obtain ⟨c, h1, rfl⟩ := Option.map_eq_some_iff.1 hj
        obtain ⟨y, hy, hcell⟩ := hc j c h1
        cases hy
        exact hcell)
      simpa using this
    rw [run_convert_bytes_string w src dst e _ m.length cap hs he hd, run_bytesToString w _ m.length cap _ hl, foldl_push_bytes]
    have e1 : (m.map fun c => (c.toNat : Int)).map (fun n : Int => UInt8.ofNat n.toNat) = m := by
      rw [List.map_map]
      refine List.map_id'' (fun c => ?_) m
      simp
    rw [e1]
    simp [ByteArray.empty, ByteArray.emptyWithCapacity]
    rfl

theorem getI_le {l : List UInt8} {at_ nx : Nat} {n : Int} (h : getI l at_ = some (n, nx)) : at_ < nx ∧ nx ≤ l.length ∧ -9223372036854775808 ≤ n ∧ n ≤ 9223372036854775807 := by
  obtain ⟨h1, h2, _, h3, h4⟩ := getI_seg h
  exact ⟨h1, h2, h3, h4⟩

set_option maxRecDepth 100000 in
theorem text_any (v : Value) (l : List UInt8) (at_ : Nat) (w : World) (hR : Rd w v l) (ha : at_ ≤ 9223372036854775000) (hl : l.length ≤ 9223372036854000000) :
    Calls Try.prog 17 #[v, .int .i64 at_] w fun e w' => e = .returned (vT (getT l at_)) ∧ w = w' := by
  have G := int_any v l at_ w hR ha (by omega)
  have HR := Lib.hid hR
  obtain ⟨a1, c1, rfl, k1, m1, -⟩ := hR
  unfold maxLen at m1
  cases hr : getI l at_ with
  | none =>
    have hg : Hid (getT l at_ = none) := Lib.hid (by unfold getT; rw [hr])
    rw [hr] at G
    clear hr
    go_enter Try.func17, Try.ntmps17
    go_wp2_with fail
    refine G.mono ?_
    rintro r w' ⟨rfl, rfl⟩
    simp only [vI]
    go_wp2_with fail
    go_ret3
    exact ⟨by rw [hg.out]; rfl, rfl⟩
  | some p =>
    obtain ⟨n, nx⟩ := p
    obtain ⟨b1, b2, b3, b4⟩ := getI_le hr
    by_cases hn : 0 ≤ n ∧ n ≤ 65536 ∧ nx + n.toNat ≤ l.length
    · have hg : Hid (getT l at_ = some ((l.drop nx).take n.toNat, nx + n.toNat)) := Lib.hid (by unfold getT; rw [hr]; simp only; rw [if_pos hn])
      rw [hr] at G
      clear hr
      obtain ⟨n1, n2, n3⟩ := hn
      obtain ⟨k, rfl⟩ : ∃ k : Nat, n = k := ⟨n.toNat, by omega⟩
      rw [Int.toNat_natCast] at n3 hg
      rcases Nat.eq_zero_or_pos k with hk | hk
      · have hcv : ∀ (aa : Option Addr) (cp : Nat), (convert 24 9 (.slice aa k cp)).run Try.prog w = .ok (.string ⟨#[]⟩) w := fun aa cp =>
          run_str w Try.underlying24 Try.underlying5 Try.underlying9 aa k cp [] (by simp [hk]) (fun i c hi => by simp at hi)
        have HK := Lib.hid hk
        clear hk
        go_enter Try.func17, Try.ntmps17
        go_wp2_with fail
        refine G.mono ?_
        rintro r w' ⟨rfl, rfl⟩
        simp only [vI]
        go_wp2_with fail
        all_goals
          go_ret3
          exact ⟨by rw [hg.out, vT, HK.out]; rfl, rfl⟩
      · obtain ⟨a1', c1', e1, _, _, f1⟩ := HR.out
        simp only [Value.slice.injEq] at e1
        obtain ⟨rfl, _, rfl⟩ := e1
        obtain ⟨x, rfl, _⟩ := f1 nx l[nx] (List.getElem?_eq_getElem (by omega))
        have hcv : ∀ (cp : Nat), (convert 24 9 (.slice (some (x.add nx)) k cp)).run Try.prog w = .ok (.string ⟨((l.drop nx).take k).toArray⟩) w := fun cp =>
          run_str w Try.underlying24 Try.underlying5 Try.underlying9 _ k cp ((l.drop nx).take k) (by rw [List.length_take, List.length_drop]; omega) (fun i c hi => by
            rw [List.getElem?_take] at hi
            split at hi
            · rw [List.getElem?_drop] at hi
              obtain ⟨y, hy, hcell⟩ := f1 _ c hi
              cases hy
              exact ⟨_, rfl, by rw [Addr.add_add]; exact hcell⟩
            · cases hi)
        have hne : ¬ c1 = nx := by omega
        clear f1
        go_enter Try.func17, Try.ntmps17
        go_wp2_with fail
        refine G.mono ?_
        rintro r w' ⟨rfl, rfl⟩
        simp only [vI]
        go_wp2_with fail
        go_ret3
        exact ⟨by rw [hg.out, vT]; rfl, rfl⟩
    · have hg : Hid (getT l at_ = none) := Lib.hid (by unfold getT; rw [hr]; simp only; rw [if_neg hn])
      rw [hr] at G
      clear hr
      by_cases n1 : n < 0
      · clear hn
        go_enter Try.func17, Try.ntmps17
        go_wp2_with fail
        refine G.mono ?_
        rintro r w' ⟨rfl, rfl⟩
        simp only [vI]
        go_wp2_with fail
        go_ret3
        exact ⟨by rw [hg.out]; rfl, rfl⟩
      · by_cases n2 : 65536 < n
        · clear hn
          go_enter Try.func17, Try.ntmps17
          go_wp2_with fail
          refine G.mono ?_
          rintro r w' ⟨rfl, rfl⟩
          simp only [vI]
          go_wp2_with fail
          go_ret3
          exact ⟨by rw [hg.out]; rfl, rfl⟩
        · have n3 : (l.length : Int) - nx < n := by omega
          clear hn
          go_enter Try.func17, Try.ntmps17
          go_wp2_with fail
          refine G.mono ?_
          rintro r w' ⟨rfl, rfl⟩
          simp only [vI]
          go_wp2_with fail
          go_ret3
          exact ⟨by rw [hg.out]; rfl, rfl⟩

end Go.Proofs.Ytolgbnpginifkaa.get
