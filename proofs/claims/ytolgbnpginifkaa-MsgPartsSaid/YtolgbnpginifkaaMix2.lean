/- As XMix, where two operations may come next once: a fork; each way is walked. -/
import Derived.Test.YtolgbnpginifkaaMix
namespace Go.Proofs.Ytolgbnpginifkaa.mix

section
variable {P : Program} {l : List Oper} {Q : Exit → Act → World → Prop}

theorem wp_region_fork {id : Nat} {a : Act} {w : World} (C : World → Prop) (d : Oper) (idx : List Nat) (c1 : Nat) (s1 : List (List Nat × Nat)) (t1 : List Nat) (c2 : Nat) (s2 : List (List Nat × Nat)) (t2 : List Nat)
    (hm : P.follows .mixedOrders = true)
    (hB : (Region.noSelect l.toArray && takes .any l.toArray (Array.replicate l.length false) idx && (Region.ready .any l.toArray (after (Array.replicate l.length false) idx) == [c1, c2]) &&
      okSegs .any l.toArray ((after (Array.replicate l.length false) idx).setIfInBounds c1 true) s1 t1 && okSegs .any l.toArray ((after (Array.replicate l.length false) idx).setIfInBounds c2 true) s2 t2 &&
      (idx.length + (fuelOf s1 t1 + 1) == l.length) && (fuelOf s2 t2 == fuelOf s1 t1)) = true)
    (hQ : ∀ c a w dst v, Q (.panic c) (a.put dst v) w → Q (.panic c) a w) (hC : C w.drew)
    (h : wpQuiet P l.toArray C (fun a' => callAt P l Q (l.getD c1 d) (fun a'' w'' => C w'' ∧ wpMix P l C Q d s1 t1 a'' w'') a' w.drew ∧ callAt P l Q (l.getD c2 d) (fun a'' w'' => C w'' ∧ wpMix P l C Q d s2 t2 a'' w'') a' w.drew) (idx.map (l.getD · d)) a) :
    (Code.region id l.toArray true).wp P Q a w := by
  simp only [Bool.and_eq_true, beq_iff_eq] at hB
  obtain ⟨⟨⟨⟨⟨⟨h1, h2⟩, h3⟩, h4⟩, h5⟩, h6⟩, h7⟩ := hB
  refine wp_region_held (S := C) hm ?_
  have key : wpAnyH P .any l.toArray Q C (idx.length + (fuelOf s1 t1 + 1)) (Array.replicate l.length false) a w.drew := by
    refine takes_any h1 hQ hC idx _ a h2 h (fun a' hq => ?_)
    refine wpAnyH_all h3 (by simp) (fun i hi => ?_)
    obtain ⟨_, o, ho, _⟩ := mem_ready.1 (show i ∈ Region.ready .any l.toArray (after (Array.replicate l.length false) idx) by rw [h3]; exact hi)
    have hd : l.getD i d = o := by
      rw [List.getElem?_toArray] at ho
      rw [List.getD, ho]; rfl
    have hh : callAt P l Q o (fun a'' w'' => C w'' ∧ wpAnyH P .any l.toArray Q C (fuelOf s1 t1) ((after (Array.replicate l.length false) idx).setIfInBounds i true) a'' w'') a' w.drew := by
      simp only [List.mem_cons, List.not_mem_nil, or_false] at hi
      rcases hi with rfl | rfl
      · have h8 := hq.1
        rw [hd] at h8
        unfold callAt at h8 ⊢
        split
        · rename_i hw
          rw [if_pos hw] at h8
          exact Oper.wp_mono (fun a2 w2 h => ⟨h.1, any_of_mix h1 hQ s1 t1 _ a2 w2 h4 h.1 h.2⟩) h8
        · rename_i hw
          rw [if_neg hw] at h8
          exact ⟨h8.1, any_of_mix h1 hQ s1 t1 _ _ _ h4 h8.1 h8.2⟩
      · have h8 := hq.2
        rw [hd] at h8
        rw [← h7]
        unfold callAt at h8 ⊢
        split
        · rename_i hw
          rw [if_pos hw] at h8
          exact Oper.wp_mono (fun a2 w2 h => ⟨h.1, any_of_mix h1 hQ s2 t2 _ a2 w2 h5 h.1 h.2⟩) h8
        · rename_i hw
          rw [if_neg hw] at h8
          exact ⟨h8.1, any_of_mix h1 hQ s2 t2 _ _ _ h5 h8.1 h8.2⟩
    unfold callAt at hh
    unfold wpOp
    simp only [ho]
    split
    · rename_i hw
      rw [if_pos hw] at hh
      exact .inl hh
    · rename_i hw
      rw [if_neg hw] at hh
      exact hh
  rw [h6] at key
  rw [show l.toArray.size = l.length by simp]
  exact key
end
end Go.Proofs.Ytolgbnpginifkaa.mix
