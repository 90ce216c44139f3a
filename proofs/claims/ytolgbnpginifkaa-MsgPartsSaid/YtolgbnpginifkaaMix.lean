/- A region that draws its order, in which operations that only reckon or load stand beside calls that are forced into one order: it may be walked in one order that is chosen ahead: segments of quiet operations (the kit's quiet walk), a call behind each. After the kit's law of held operations. -/
import Derived.OrdersHeld
import Derived.BigQuiet
namespace Go.Proofs.Ytolgbnpginifkaa.mix

/-- An operation that yields a value, and does nothing else. -/
def vop (o : Oper) : Bool :=
  match o.op with
  | .move .. | .assign .. | .pick .. | .load .. | .binOp .. | .unOp .. | .convert .. | .slice .. | .fieldAddr .. | .field .. | .indexAddr .. | .index .. | .extract .. | .nilCheck .. => true
  | .call c => match c.callee with
    | .builtin .len => true
    | _ => false
  | _ => false

theorem bind_value {P : Program} {s : Sem Value} {w w' : World} {n : Next} (h : (do let x ← s; pure (Next.value x) : Sem Next).run P w = .ok n w') : ∃ u, n = .value u := by
  rw [Sem.run_bind] at h
  cases hs : s.run P w with
  | ok v w1 =>
    rw [hs] at h
    simp only [Result.andThen, Sem.run_pure, Result.ok.injEq] at h
    exact ⟨v, h.1.symm⟩
  | halt x w1 => rw [hs] at h; simp [Result.andThen] at h

def Ends (s : Sem Next) : Prop := ∀ (P : Program) (w : World) (n : Next) (w' : World), s.run P w = .ok n w' → ∃ u, n = .value u
theorem ends_pure (v : Value) : Ends (pure (.value v)) := fun P w n w' h => by
  simp only [Sem.run_pure, Result.ok.injEq] at h
  exact ⟨_, h.1.symm⟩
theorem ends_bind {α : Type} (x : Sem α) (f : α → Sem Next) (h : ∀ a, Ends (f a)) : Ends (x >>= f) := fun P w n w' hr => by
  rw [Sem.run_bind] at hr
  cases hx : x.run P w with
  | ok a w1 => rw [hx] at hr; exact h a P w1 n w' hr
  | halt e w1 => rw [hx] at hr; simp [Result.andThen] at hr

theorem vop_value {P : Program} {o : Oper} {r : Operand → Value} {w w' : World} {n : Next} (h : vop o = true) (hr : (execOp r o).run P w = .ok n w') : ∃ u, n = .value u := by
  obtain ⟨dst, op, ty, pos, aft, g⟩ := o
  cases op <;> simp only [vop, Bool.false_eq_true] at h
  case call c =>
    obtain ⟨callee, args, tys⟩ := c
    cases callee <;> simp only [Bool.false_eq_true] at h
    case builtin b =>
      cases b <;> simp only [Bool.false_eq_true] at h
      simp only [execOp, resolve, invoke, builtin, Sem.run_bind, Sem.run_pure, Result.andThen] at hr
      split at hr
      · simp only [Result.ok.injEq] at hr
        exact ⟨_, hr.1.symm⟩
      · cases hr
  case nilCheck x =>
    simp only [execOp] at hr
    split at hr
    · simp [runtimePanic, goPanic] at hr
    · simp [runtimePanic, goPanic] at hr
    · simp [runtimePanic, goPanic] at hr
    · split at hr
      · simp [runtimePanic, goPanic] at hr
      · refine ends_bind _ _ (fun a => ends_bind _ _ (fun b => ?_)) _ _ _ _ hr
        split
        · exact ends_bind _ _ (fun _ => ends_pure _)
        · exact ends_pure _
      · simp only [Sem.run_pure, Result.ok.injEq] at hr
        exact ⟨_, hr.1.symm⟩
    · simp only [Sem.run_pure, Result.ok.injEq] at hr
      exact ⟨_, hr.1.symm⟩
  all_goals
    simp only [execOp] at hr
    first
      | exact bind_value hr
      | (simp only [Sem.run_pure, Result.ok.injEq] at hr; exact ⟨_, hr.1.symm⟩)
      | (simp only [Sem.run_bind, Sem.run_pure, Result.andThen] at hr; split at hr <;> first | (cases hr; done) | (simp only [Result.ok.injEq] at hr; exact ⟨_, hr.1.symm⟩))

section
variable {P : Program} {l : List Oper} {C : World → Prop} {Q : Exit → Act → World → Prop} {md : Region.Mode} {d : Oper}

def after (listed : Array Bool) (idx : List Nat) : Array Bool := idx.foldl (fun L i => L.setIfInBounds i true) listed

/-- These may be taken, one behind the other. -/
def takes (md : Region.Mode) (ops : Array Oper) : Array Bool → List Nat → Bool
  | _, [] => true
  | listed, i :: r => Region.free md ops listed i && (Region.ready md ops listed).contains i && (match ops[i]? with | some o => vop o | none => false) && takes md ops (listed.setIfInBounds i true) r

def okSegs (md : Region.Mode) (ops : Array Oper) : Array Bool → List (List Nat × Nat) → List Nat → Bool
  | listed, [], last => takes md ops listed last && (Region.ready md ops (after listed last)).isEmpty
  | listed, (idx, c) :: r, last => takes md ops listed idx && (Region.ready md ops (after listed idx) == [c]) && okSegs md ops ((after listed idx).setIfInBounds c true) r last

/-- The operation that may change the world. -/
def callAt (P : Program) (l : List Oper) (Q : Exit → Act → World → Prop) (o : Oper) (K : Act → World → Prop) (a : Act) (w : World) : Prop :=
  if Region.wanted o (yielded l.toArray a.tmps) = true then o.wp P a w K Q else K (a.put o.dst undef) w

/-- THE WALK, in the order that was chosen. -/
def wpMix (P : Program) (l : List Oper) (C : World → Prop) (Q : Exit → Act → World → Prop) (d : Oper) : List (List Nat × Nat) → List Nat → Act → World → Prop
  | [], last, a, w => wpQuiet P l.toArray C (fun a' => Q .normal a' w) (last.map (l.getD · d)) a
  | (idx, c) :: r, last, a, w => wpQuiet P l.toArray C (fun a' => callAt P l Q (l.getD c d) (fun a'' w'' => C w'' ∧ wpMix P l C Q d r last a'' w'') a' w) (idx.map (l.getD · d)) a

theorem takes_any (hs : Region.noSelect l.toArray = true) (hQ : ∀ c a w dst v, Q (.panic c) (a.put dst v) w → Q (.panic c) a w) {Qq : Act → Prop} {fuel : Nat} {w : World} (hC : C w) :
    ∀ (idx : List Nat) (listed : Array Bool) (a : Act), takes md l.toArray listed idx = true → wpQuiet P l.toArray C Qq (idx.map (l.getD · d)) a →
      (∀ a', Qq a' → wpAnyH P md l.toArray Q C fuel (after listed idx) a' w) → wpAnyH P md l.toArray Q C (idx.length + fuel) listed a w
  | [], listed, a, _, h, k => by
    rw [List.length_nil, Nat.zero_add]
    exact k a h
  | i :: r, listed, a, ht, h, k => by
    simp only [takes, Bool.and_eq_true] at ht
    obtain ⟨⟨⟨hf, hr⟩, hv⟩, ht'⟩ := ht
    obtain ⟨_, o, ho, _⟩ := mem_ready.1 (show i ∈ Region.ready md l.toArray listed by simpa using hr)
    rw [ho] at hv
    have hd : l.getD i d = o := by
      rw [List.getElem?_toArray] at ho
      rw [List.getD, ho]; rfl
    rw [List.map_cons, hd] at h
    unfold wpQuiet at h
    rw [List.length_cons, Nat.add_right_comm]
    split at h
    · rename_i hw
      obtain ⟨v, h1, h2⟩ := h
      refine wpAnyH_take (v := v) ho hs hf hr (fun c a w => hQ c a w _ _) (.inl ⟨hw, fun w1 hC1 => ?_⟩) hC (takes_any hs hQ hC r _ _ ht' h2 k)
      have h3 := h1 w1 hC1
      unfold Oper.quietAt at h3
      generalize hrr : (execOp a.eval o).run P w1 = rr at h3
      cases rr with
      | ok n w2 =>
        obtain ⟨u, rfl⟩ := vop_value hv hrr
        simp only [Oper.quietUpon] at h3
        rw [h3.1, h3.2]
      | halt x w2 => simp [Oper.quietUpon] at h3
    · rename_i hw
      exact wpAnyH_take (v := undef) ho hs hf hr (fun c a w => hQ c a w _ _) (.inr ⟨by simpa using hw, rfl⟩) hC (takes_any hs hQ hC r _ _ ht' h k)

def fuelOf : List (List Nat × Nat) → List Nat → Nat
  | [], last => last.length + 0
  | (idx, _) :: r, last => idx.length + (fuelOf r last + 1)

theorem any_of_mix (hs : Region.noSelect l.toArray = true) (hQ : ∀ c a w dst v, Q (.panic c) (a.put dst v) w → Q (.panic c) a w) :
    ∀ (segs : List (List Nat × Nat)) (last : List Nat) (listed : Array Bool) (a : Act) (w : World), okSegs md l.toArray listed segs last = true → C w → wpMix P l C Q d segs last a w →
      wpAnyH P md l.toArray Q C (fuelOf segs last) listed a w
  | [], last, listed, a, w, hB, hC, h => by
    simp only [okSegs, Bool.and_eq_true, List.isEmpty_iff] at hB
    exact takes_any hs hQ hC last listed a hB.1 h (fun a' hq => ⟨hB.2, hq⟩)
  | (idx, c) :: r, last, listed, a, w, hB, hC, h => by
    simp only [okSegs, Bool.and_eq_true, beq_iff_eq] at hB
    obtain ⟨⟨h1, h2⟩, h3⟩ := hB
    refine takes_any hs hQ hC idx listed a h1 h (fun a' hq => ?_)
    refine wpAnyH_all h2 (by simp) (fun i hi => ?_)
    rw [List.mem_singleton] at hi
    subst hi
    obtain ⟨_, o, ho, _⟩ := mem_ready.1 (show i ∈ Region.ready md l.toArray (after listed idx) by rw [h2]; simp)
    have hd : l.getD i d = o := by
      rw [List.getElem?_toArray] at ho
      rw [List.getD, ho]; rfl
    rw [hd] at hq
    unfold callAt at hq
    unfold wpOp
    simp only [ho]
    split
    · rename_i hw
      rw [if_pos hw] at hq
      exact .inl (Oper.wp_mono (fun a2 w2 h => ⟨h.1, any_of_mix hs hQ r last _ a2 w2 h3 h.1 h.2⟩) hq)
    · rename_i hw
      rw [if_neg hw] at hq
      exact ⟨hq.1, any_of_mix hs hQ r last _ _ w h3 hq.1 hq.2⟩

/-- THE LAW. -/
theorem wp_region_mix {id : Nat} {a : Act} {w : World} (C : World → Prop) (d : Oper) (segs : List (List Nat × Nat)) (last : List Nat) (hm : P.follows .mixedOrders = true)
    (hB : (Region.noSelect l.toArray && okSegs .any l.toArray (Array.replicate l.length false) segs last && (fuelOf segs last == l.length)) = true)
    (hQ : ∀ c a w dst v, Q (.panic c) (a.put dst v) w → Q (.panic c) a w) (hC : C w.drew) (h : wpMix P l C Q d segs last a w.drew) : (Code.region id l.toArray true).wp P Q a w := by
  simp only [Bool.and_eq_true, beq_iff_eq] at hB
  obtain ⟨⟨h1, h2⟩, h3⟩ := hB
  refine wp_region_held (S := C) hm ?_
  have := any_of_mix (md := .any) h1 hQ segs last _ a w.drew h2 hC h
  rw [h3] at this
  rw [show l.toArray.size = l.length by simp]
  exact this

theorem wpMix_cons {idx : List Nat} {c : Nat} {r : List (List Nat × Nat)} {last : List Nat} {a : Act} {w : World} :
    wpMix P l C Q d ((idx, c) :: r) last a w = wpQuiet P l.toArray C (fun a' => callAt P l Q (l.getD c d) (fun a'' w'' => C w'' ∧ wpMix P l C Q d r last a'' w'') a' w) (idx.map (l.getD · d)) a := rfl
theorem wpMix_nil {last : List Nat} {a : Act} {w : World} : wpMix P l C Q d [] last a w = wpQuiet P l.toArray C (fun a' => Q .normal a' w) (last.map (l.getD · d)) a := rfl

/-- An operation that stands for none. -/
def noOper : Oper := { dst := none, op := .move (.tmp 0), type := 0, pos := "", after := #[], guard := none }

/-- At a call: what follows behind a variable. -/
theorem callAt_step {o : Oper} {K : Act → World → Prop} {a : Act} {w : World} (hw : Region.wanted o (yielded l.toArray a.tmps) = true)
    (h : ∀ K' : Act → World → Prop, (∀ a w, K a w → K' a w) → o.wp P a w K' Q) : callAt P l Q o K a w := by
  unfold callAt
  rw [if_pos hw]
  exact h _ (fun _ _ h => h)
theorem callAt_skip {o : Oper} {K : Act → World → Prop} {a : Act} {w : World} (hw : Region.wanted o (yielded l.toArray a.tmps) = false) (h : K (a.put o.dst undef) w) : callAt P l Q o K a w := by
  unfold callAt
  rw [if_neg (by rw [hw]; exact Bool.false_ne_true)]
  exact h
end
end Go.Proofs.Ytolgbnpginifkaa.mix
