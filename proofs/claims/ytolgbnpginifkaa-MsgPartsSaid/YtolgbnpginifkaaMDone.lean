/- The contracts of msg.done. -/
import Derived.Test.YtolgbnpginifkaaMInto
import Derived.RegionTactic
namespace Go.Proofs.Ytolgbnpginifkaa.mdone
open Go.ChangeShapes Go.WideShapes Go.ChangeAt Go.RowKit codec st own get blk rep ent msgd entget minto
open into (adv fI fT fB fV)
set_option linter.unusedVariables false

theorem _root_.Go.Proofs.Ytolgbnpginifkaa.minto.Rst.quiet {B rb eb : Nat} {bv : Value} {l : List UInt8} {ks : List Nat} {s : Option (List Value × Nat)} {w w' : World} (h : Rst B rb eb bv l ks s w) (hb : Below w.heap.size w w') : Rst B rb eb bv l ks s w' := by
  obtain ⟨h1, h2, h3, h4, h5, hs⟩ := h
  refine ⟨h1.below hb (Nat.le_refl _), h2, h3, h4, h5, ?_⟩
  cases s with
  | none =>
    obtain ⟨p, es, b1, b2, hn⟩ := hs
    exact ⟨p, es, b1.below hb b1.lt, b2.below hb b2.lt, hn⟩
  | some x => exact ⟨hs.1.below hb hs.1.lt, hs.2.1.below hb hs.2.1.lt, hs.2.2⟩

/-- The reader's end. -/
theorem _root_.Go.Proofs.Ytolgbnpginifkaa.minto.Rst.fin {B rb eb : Nat} {bv : Value} {l : List UInt8} {ks : List Nat} {s : Option (List Value × Nat)} {w : World} (h : Rst B rb eb bv l ks s w) :
    ∃ (p : Nat) (ok : Bool) (es : List Value), Blk w rb [bv, .int .i64 p, .bool ok] ∧ Blk w eb es ∧ es.map kd = ks ∧ (ok = true → p ≤ 9223372036854775000) ∧ s = (if ok then some (es, p) else none) := by
  obtain ⟨_, _, _, _, _, hs⟩ := h
  cases s with
  | none =>
    obtain ⟨p, es, b1, b2, hn⟩ := hs
    exact ⟨p, false, es, b1, b2, hn, by simp, rfl⟩
  | some x => exact ⟨x.2, true, x.1, hs.1, hs.2.1, hs.2.2.1, fun _ => hs.2.2.2, rfl⟩

theorem invMem {es : List Value} (h : es.map kd = [1, 1]) : ∃ c0 c1, es = [.int .i64 c0, .int .i64 c1] := by
  have hl : es.length = 2 := by rw [← List.length_map (f := kd), h]; rfl
  obtain ⟨v0, v1, rfl⟩ : ∃ v0 v1, es = [v0, v1] := by
    match es, hl with
    | [v0, v1], _ => exact ⟨v0, v1, rfl⟩
  simp only [List.map_cons, List.map_nil, List.cons.injEq, and_true] at h
  obtain ⟨h0, h1⟩ := h
  obtain ⟨c0, rfl⟩ := kd1 h0
  obtain ⟨c1, rfl⟩ := kd1 h1
  exact ⟨_, _, rfl⟩

set_option maxRecDepth 100000 in
theorem doneMem_any (rb : Nat) (bv : Value) (p : Nat) (ok : Bool) (c0 : Int) (c1 : Int) (w : World) (h : Blk w rb [bv, .int .i64 p, .bool ok]) :
    Calls Try.prog 91 #[.pointer (some ⟨rb, 0, none⟩), .agg #[.int .i64 c0, .int .i64 c1]] w (Gave w (if ok then .tuple #[.agg #[.int .i64 c0, .int .i64 c1], .int .i64 p, .bool true] else .tuple #[.agg #[.int .i64 0, .int .i64 0], .int .i64 0, .bool false])) := by
  have hc1 := h.cell (j := 1) rfl
  have hc2 := h.cell (j := 2) rfl
  have hlt := h.lt
  have eN : (w.alloc (.cells #[.int .i64 c0, .int .i64 c1] 119)).heap.size = w.heap.size + 1 := by simp
  have kF := (Blk.new (w.alloc (.cells #[.int .i64 c0, .int .i64 c1] 119)) [.int .i64 0, .int .i64 0] 119).alloc (.cells #[.int .i64 0, .int .i64 0] 119)
  have kT := (Blk.new (w.alloc (.cells #[.int .i64 c0, .int .i64 c1] 119)) [.int .i64 c0, .int .i64 c1] 119)
  rw [eN] at kF kT
  cases ok
  · go_enter Try.func91, Try.ntmps91
    go_wp2_with fail
    exact entget.retB (v := .tuple #[.agg #[.int .i64 0, .int .i64 0], .int .i64 0, .bool false]) (b := w.heap.size + 1) (cs := [.int .i64 0, .int .i64 0]) kF (fun W hW => by
      have y0 := hW.cell (j := 0) rfl
      have y1 := hW.cell (j := 1) rfl
      simp [results, Try.results91, go_sem, y0, y1]
      try rfl) rfl ⟨rfl, (((Below.refl _ _).alloc (Nat.le_refl _) _).alloc (by simp) _).alloc (by simp; omega) _⟩
  · go_enter Try.func91, Try.ntmps91
    go_wp2_with fail
    go_region
    all_goals
      go_wp2_with fail
      exact entget.retB (v := .tuple #[.agg #[.int .i64 c0, .int .i64 c1], .int .i64 p, .bool true]) (b := w.heap.size + 1) (cs := [.int .i64 c0, .int .i64 c1]) kT.drew (fun W hW => by
        have y0 := hW.cell (j := 0) rfl
        have y1 := hW.cell (j := 1) rfl
        simp [results, Try.results91, go_sem, y0, y1]
        try rfl) rfl ⟨rfl, ((((Below.refl _ _).alloc (Nat.le_refl _) _).alloc (by simp) _)).drew⟩

theorem invSn {es : List Value} (h : es.map kd = [1, 1, 4, 1, 1, 2, 3]) : ∃ c0 c1 c2 d2 c3 c4 c5 c6, es = [.int .i64 c0, .int .i64 c1, .complex .f64 c2 d2, .int .i64 c3, .int .i64 c4, .string c5, .bool c6] := by
  have hl : es.length = 7 := by rw [← List.length_map (f := kd), h]; rfl
  obtain ⟨v0, v1, v2, v3, v4, v5, v6, rfl⟩ : ∃ v0 v1 v2 v3 v4 v5 v6, es = [v0, v1, v2, v3, v4, v5, v6] := by
    match es, hl with
    | [v0, v1, v2, v3, v4, v5, v6], _ => exact ⟨v0, v1, v2, v3, v4, v5, v6, rfl⟩
  simp only [List.map_cons, List.map_nil, List.cons.injEq, and_true] at h
  obtain ⟨h0, h1, h2, h3, h4, h5, h6⟩ := h
  obtain ⟨c0, rfl⟩ := kd1 h0
  obtain ⟨c1, rfl⟩ := kd1 h1
  obtain ⟨c2, d2, rfl⟩ := kd4 h2
  obtain ⟨c3, rfl⟩ := kd1 h3
  obtain ⟨c4, rfl⟩ := kd1 h4
  obtain ⟨c5, rfl⟩ := kd2 h5
  obtain ⟨c6, rfl⟩ := kd3 h6
  exact ⟨_, _, _, _, _, _, _, _, rfl⟩

set_option maxRecDepth 100000 in
theorem doneSn_any (rb : Nat) (bv : Value) (p : Nat) (ok : Bool) (c0 : Int) (c1 : Int) (c2 d2 : Nat) (c3 : Int) (c4 : Int) (c5 : ByteArray) (c6 : Bool) (w : World) (h : Blk w rb [bv, .int .i64 p, .bool ok]) :
    Calls Try.prog 95 #[.pointer (some ⟨rb, 0, none⟩), .agg #[.int .i64 c0, .int .i64 c1, .complex .f64 c2 d2, .int .i64 c3, .int .i64 c4, .string c5, .bool c6]] w (Gave w (if ok then .tuple #[.agg #[.int .i64 c0, .int .i64 c1, .complex .f64 c2 d2, .int .i64 c3, .int .i64 c4, .string c5, .bool c6], .int .i64 p, .bool true] else .tuple #[.agg #[.int .i64 0, .int .i64 0, .complex .f64 0 0, .int .i64 0, .int .i64 0, .string ⟨#[]⟩, .bool false], .int .i64 0, .bool false])) := by
  have hc1 := h.cell (j := 1) rfl
  have hc2 := h.cell (j := 2) rfl
  have hlt := h.lt
  have hst : ∀ (x y : Nat) (w : World) (a : Addr) (q : Mode), (store a (.complex .f64 x y) q).run Try.prog w = stored Try.prog w a (.complex .f64 x y) q := fun x y w a q => run_store Try.prog w a _ q rfl
  have eN : (w.alloc (.cells #[.int .i64 c0, .int .i64 c1, .complex .f64 c2 d2, .int .i64 c3, .int .i64 c4, .string c5, .bool c6] 139)).heap.size = w.heap.size + 1 := by simp
  have kF := (Blk.new (w.alloc (.cells #[.int .i64 c0, .int .i64 c1, .complex .f64 c2 d2, .int .i64 c3, .int .i64 c4, .string c5, .bool c6] 139)) [.int .i64 0, .int .i64 0, .complex .f64 0 0, .int .i64 0, .int .i64 0, .string ⟨#[]⟩, .bool false] 139).alloc (.cells #[.int .i64 0, .int .i64 0, .complex .f64 0 0, .int .i64 0, .int .i64 0, .string ⟨#[]⟩, .bool false] 139)
  have kT := (Blk.new (w.alloc (.cells #[.int .i64 c0, .int .i64 c1, .complex .f64 c2 d2, .int .i64 c3, .int .i64 c4, .string c5, .bool c6] 139)) [.int .i64 c0, .int .i64 c1, .complex .f64 c2 d2, .int .i64 c3, .int .i64 c4, .string c5, .bool c6] 139)
  rw [eN] at kF kT
  cases ok
  · go_enter Try.func95, Try.ntmps95
    go_wp2_with fail
    exact entget.retB (v := .tuple #[.agg #[.int .i64 0, .int .i64 0, .complex .f64 0 0, .int .i64 0, .int .i64 0, .string ⟨#[]⟩, .bool false], .int .i64 0, .bool false]) (b := w.heap.size + 1) (cs := [.int .i64 0, .int .i64 0, .complex .f64 0 0, .int .i64 0, .int .i64 0, .string ⟨#[]⟩, .bool false]) kF (fun W hW => by
      have y0 := hW.cell (j := 0) rfl
      have y1 := hW.cell (j := 1) rfl
      have y2 := hW.cell (j := 2) rfl
      have y3 := hW.cell (j := 3) rfl
      have y4 := hW.cell (j := 4) rfl
      have y5 := hW.cell (j := 5) rfl
      have y6 := hW.cell (j := 6) rfl
      simp [results, Try.results95, go_sem, y0, y1, y2, y3, y4, y5, y6]
      try rfl) rfl ⟨rfl, (((Below.refl _ _).alloc (Nat.le_refl _) _).alloc (by simp) _).alloc (by simp; omega) _⟩
  · go_enter Try.func95, Try.ntmps95
    go_wp2_with fail
    go_region
    all_goals
      go_wp2_with fail
      exact entget.retB (v := .tuple #[.agg #[.int .i64 c0, .int .i64 c1, .complex .f64 c2 d2, .int .i64 c3, .int .i64 c4, .string c5, .bool c6], .int .i64 p, .bool true]) (b := w.heap.size + 1) (cs := [.int .i64 c0, .int .i64 c1, .complex .f64 c2 d2, .int .i64 c3, .int .i64 c4, .string c5, .bool c6]) kT.drew (fun W hW => by
        have y0 := hW.cell (j := 0) rfl
        have y1 := hW.cell (j := 1) rfl
        have y2 := hW.cell (j := 2) rfl
        have y3 := hW.cell (j := 3) rfl
        have y4 := hW.cell (j := 4) rfl
        have y5 := hW.cell (j := 5) rfl
        have y6 := hW.cell (j := 6) rfl
        simp [results, Try.results95, go_sem, y0, y1, y2, y3, y4, y5, y6]
        try rfl) rfl ⟨rfl, ((((Below.refl _ _).alloc (Nat.le_refl _) _).alloc (by simp) _)).drew⟩

theorem invVw {es : List Value} (h : es.map kd = [1, 1, 1, 1, 5]) : ∃ c0 c1 c2 c3 c4 d4 e4, es = [.int .i64 c0, .int .i64 c1, .int .i64 c2, .int .i64 c3, .slice c4 d4 e4] := by
  have hl : es.length = 5 := by rw [← List.length_map (f := kd), h]; rfl
  obtain ⟨v0, v1, v2, v3, v4, rfl⟩ : ∃ v0 v1 v2 v3 v4, es = [v0, v1, v2, v3, v4] := by
    match es, hl with
    | [v0, v1, v2, v3, v4], _ => exact ⟨v0, v1, v2, v3, v4, rfl⟩
  simp only [List.map_cons, List.map_nil, List.cons.injEq, and_true] at h
  obtain ⟨h0, h1, h2, h3, h4⟩ := h
  obtain ⟨c0, rfl⟩ := kd1 h0
  obtain ⟨c1, rfl⟩ := kd1 h1
  obtain ⟨c2, rfl⟩ := kd1 h2
  obtain ⟨c3, rfl⟩ := kd1 h3
  obtain ⟨c4, d4, e4, rfl⟩ := kd5 h4
  exact ⟨_, _, _, _, _, _, _, rfl⟩

set_option maxRecDepth 100000 in
theorem doneVw_any (rb : Nat) (bv : Value) (p : Nat) (ok : Bool) (c0 : Int) (c1 : Int) (c2 : Int) (c3 : Int) (c4 : Option Addr) (d4 e4 : Nat) (w : World) (h : Blk w rb [bv, .int .i64 p, .bool ok]) :
    Calls Try.prog 93 #[.pointer (some ⟨rb, 0, none⟩), .agg #[.int .i64 c0, .int .i64 c1, .int .i64 c2, .int .i64 c3, .slice c4 d4 e4]] w (Gave w (if ok then .tuple #[.agg #[.int .i64 c0, .int .i64 c1, .int .i64 c2, .int .i64 c3, .slice c4 d4 e4], .int .i64 p, .bool true] else .tuple #[.agg #[.int .i64 0, .int .i64 0, .int .i64 0, .int .i64 0, .slice none 0 0], .int .i64 0, .bool false])) := by
  have hc1 := h.cell (j := 1) rfl
  have hc2 := h.cell (j := 2) rfl
  have hlt := h.lt
  have eN : (w.alloc (.cells #[.int .i64 c0, .int .i64 c1, .int .i64 c2, .int .i64 c3, .slice c4 d4 e4] 125)).heap.size = w.heap.size + 1 := by simp
  have kF := (Blk.new (w.alloc (.cells #[.int .i64 c0, .int .i64 c1, .int .i64 c2, .int .i64 c3, .slice c4 d4 e4] 125)) [.int .i64 0, .int .i64 0, .int .i64 0, .int .i64 0, .slice none 0 0] 125).alloc (.cells #[.int .i64 0, .int .i64 0, .int .i64 0, .int .i64 0, .slice none 0 0] 125)
  have kT := (Blk.new (w.alloc (.cells #[.int .i64 c0, .int .i64 c1, .int .i64 c2, .int .i64 c3, .slice c4 d4 e4] 125)) [.int .i64 c0, .int .i64 c1, .int .i64 c2, .int .i64 c3, .slice c4 d4 e4] 125)
  rw [eN] at kF kT
  cases ok
  · go_enter Try.func93, Try.ntmps93
    go_wp2_with fail
    exact entget.retB (v := .tuple #[.agg #[.int .i64 0, .int .i64 0, .int .i64 0, .int .i64 0, .slice none 0 0], .int .i64 0, .bool false]) (b := w.heap.size + 1) (cs := [.int .i64 0, .int .i64 0, .int .i64 0, .int .i64 0, .slice none 0 0]) kF (fun W hW => by
      have y0 := hW.cell (j := 0) rfl
      have y1 := hW.cell (j := 1) rfl
      have y2 := hW.cell (j := 2) rfl
      have y3 := hW.cell (j := 3) rfl
      have y4 := hW.cell (j := 4) rfl
      simp [results, Try.results93, go_sem, y0, y1, y2, y3, y4]
      try rfl) rfl ⟨rfl, (((Below.refl _ _).alloc (Nat.le_refl _) _).alloc (by simp) _).alloc (by simp; omega) _⟩
  · go_enter Try.func93, Try.ntmps93
    go_wp2_with fail
    go_region
    all_goals
      go_wp2_with fail
      exact entget.retB (v := .tuple #[.agg #[.int .i64 c0, .int .i64 c1, .int .i64 c2, .int .i64 c3, .slice c4 d4 e4], .int .i64 p, .bool true]) (b := w.heap.size + 1) (cs := [.int .i64 c0, .int .i64 c1, .int .i64 c2, .int .i64 c3, .slice c4 d4 e4]) kT.drew (fun W hW => by
        have y0 := hW.cell (j := 0) rfl
        have y1 := hW.cell (j := 1) rfl
        have y2 := hW.cell (j := 2) rfl
        have y3 := hW.cell (j := 3) rfl
        have y4 := hW.cell (j := 4) rfl
        simp [results, Try.results93, go_sem, y0, y1, y2, y3, y4]
        try rfl) rfl ⟨rfl, ((((Below.refl _ _).alloc (Nat.le_refl _) _).alloc (by simp) _)).drew⟩

theorem invIm {es : List Value} (h : es.map kd = [4, 4, 1, 5, 5]) : ∃ c0 d0 c1 d1 c2 c3 d3 e3 c4 d4 e4, es = [.complex .f64 c0 d0, .complex .f64 c1 d1, .int .i64 c2, .slice c3 d3 e3, .slice c4 d4 e4] := by
  have hl : es.length = 5 := by rw [← List.length_map (f := kd), h]; rfl
  obtain ⟨v0, v1, v2, v3, v4, rfl⟩ : ∃ v0 v1 v2 v3 v4, es = [v0, v1, v2, v3, v4] := by
    match es, hl with
    | [v0, v1, v2, v3, v4], _ => exact ⟨v0, v1, v2, v3, v4, rfl⟩
  simp only [List.map_cons, List.map_nil, List.cons.injEq, and_true] at h
  obtain ⟨h0, h1, h2, h3, h4⟩ := h
  obtain ⟨c0, d0, rfl⟩ := kd4 h0
  obtain ⟨c1, d1, rfl⟩ := kd4 h1
  obtain ⟨c2, rfl⟩ := kd1 h2
  obtain ⟨c3, d3, e3, rfl⟩ := kd5 h3
  obtain ⟨c4, d4, e4, rfl⟩ := kd5 h4
  exact ⟨_, _, _, _, _, _, _, _, _, _, _, rfl⟩

set_option maxRecDepth 100000 in
theorem doneIm_any (rb : Nat) (bv : Value) (p : Nat) (ok : Bool) (c0 d0 : Nat) (c1 d1 : Nat) (c2 : Int) (c3 : Option Addr) (d3 e3 : Nat) (c4 : Option Addr) (d4 e4 : Nat) (w : World) (h : Blk w rb [bv, .int .i64 p, .bool ok]) :
    Calls Try.prog 79 #[.pointer (some ⟨rb, 0, none⟩), .agg #[.complex .f64 c0 d0, .complex .f64 c1 d1, .int .i64 c2, .slice c3 d3 e3, .slice c4 d4 e4]] w (Gave w (if ok then .tuple #[.agg #[.complex .f64 c0 d0, .complex .f64 c1 d1, .int .i64 c2, .slice c3 d3 e3, .slice c4 d4 e4], .int .i64 p, .bool true] else .tuple #[.agg #[.complex .f64 0 0, .complex .f64 0 0, .int .i64 0, .slice none 0 0, .slice none 0 0], .int .i64 0, .bool false])) := by
  have hc1 := h.cell (j := 1) rfl
  have hc2 := h.cell (j := 2) rfl
  have hlt := h.lt
  have hst : ∀ (x y : Nat) (w : World) (a : Addr) (q : Mode), (store a (.complex .f64 x y) q).run Try.prog w = stored Try.prog w a (.complex .f64 x y) q := fun x y w a q => run_store Try.prog w a _ q rfl
  have eN : (w.alloc (.cells #[.complex .f64 c0 d0, .complex .f64 c1 d1, .int .i64 c2, .slice c3 d3 e3, .slice c4 d4 e4] 62)).heap.size = w.heap.size + 1 := by simp
  have kF := (Blk.new (w.alloc (.cells #[.complex .f64 c0 d0, .complex .f64 c1 d1, .int .i64 c2, .slice c3 d3 e3, .slice c4 d4 e4] 62)) [.complex .f64 0 0, .complex .f64 0 0, .int .i64 0, .slice none 0 0, .slice none 0 0] 62).alloc (.cells #[.complex .f64 0 0, .complex .f64 0 0, .int .i64 0, .slice none 0 0, .slice none 0 0] 62)
  have kT := (Blk.new (w.alloc (.cells #[.complex .f64 c0 d0, .complex .f64 c1 d1, .int .i64 c2, .slice c3 d3 e3, .slice c4 d4 e4] 62)) [.complex .f64 c0 d0, .complex .f64 c1 d1, .int .i64 c2, .slice c3 d3 e3, .slice c4 d4 e4] 62)
  rw [eN] at kF kT
  cases ok
  · go_enter Try.func79, Try.ntmps79
    go_wp2_with fail
    exact entget.retB (v := .tuple #[.agg #[.complex .f64 0 0, .complex .f64 0 0, .int .i64 0, .slice none 0 0, .slice none 0 0], .int .i64 0, .bool false]) (b := w.heap.size + 1) (cs := [.complex .f64 0 0, .complex .f64 0 0, .int .i64 0, .slice none 0 0, .slice none 0 0]) kF (fun W hW => by
      have y0 := hW.cell (j := 0) rfl
      have y1 := hW.cell (j := 1) rfl
      have y2 := hW.cell (j := 2) rfl
      have y3 := hW.cell (j := 3) rfl
      have y4 := hW.cell (j := 4) rfl
      simp [results, Try.results79, go_sem, y0, y1, y2, y3, y4]
      try rfl) rfl ⟨rfl, (((Below.refl _ _).alloc (Nat.le_refl _) _).alloc (by simp) _).alloc (by simp; omega) _⟩
  · go_enter Try.func79, Try.ntmps79
    go_wp2_with fail
    go_region
    all_goals
      go_wp2_with fail
      exact entget.retB (v := .tuple #[.agg #[.complex .f64 c0 d0, .complex .f64 c1 d1, .int .i64 c2, .slice c3 d3 e3, .slice c4 d4 e4], .int .i64 p, .bool true]) (b := w.heap.size + 1) (cs := [.complex .f64 c0 d0, .complex .f64 c1 d1, .int .i64 c2, .slice c3 d3 e3, .slice c4 d4 e4]) kT.drew (fun W hW => by
        have y0 := hW.cell (j := 0) rfl
        have y1 := hW.cell (j := 1) rfl
        have y2 := hW.cell (j := 2) rfl
        have y3 := hW.cell (j := 3) rfl
        have y4 := hW.cell (j := 4) rfl
        simp [results, Try.results79, go_sem, y0, y1, y2, y3, y4]
        try rfl) rfl ⟨rfl, ((((Below.refl _ _).alloc (Nat.le_refl _) _).alloc (by simp) _)).drew⟩

end Go.Proofs.Ytolgbnpginifkaa.mdone
