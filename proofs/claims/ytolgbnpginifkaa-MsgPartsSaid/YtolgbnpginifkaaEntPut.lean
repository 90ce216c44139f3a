/- The contracts of entry.Put, PutOp and Size. -/
import Derived.Test.YtolgbnpginifkaaEntGet
import Derived.Test.YtolgbnpginifkaaRef
namespace Go.Proofs.Ytolgbnpginifkaa.entput
open Go.ChangeShapes Go.WideShapes Go.ChangeAt Go.RowKit codec st put blk ent entget
set_option linter.unusedVariables false

theorem _root_.Go.Proofs.Ytolgbnpginifkaa.blk.Blk.puts {w w' : World} {b : Nat} {cs : List Value} {v v' : Value} {l : List UInt8} (h : Blk w b cs) (p : Puts w w' v v' l) (hne : ∀ k, v.ownBlock = some k → k ≠ b) : Blk w' b cs :=
  h.of_heap (p.fr.block b h.lt (fun hh => hne b hh.1 rfl))

/-- So far: the parameter's box stands, the bytes l have been put. -/
structure PS (w0 : World) (b : Nat) (cs : List Value) (v0 v : Value) (l : List UInt8) (w : World) : Prop where
  blk : Blk w b cs
  puts : Puts w0 w v0 v l
  ne : ∀ k, v.ownBlock = some k → k ≠ b

theorem PS.step {w0 w w' : World} {b : Nat} {cs : List Value} {v0 v v' : Value} {l l' : List UInt8} (h : PS w0 b cs v0 v l w) (p : Puts w w' v v' l') : PS w0 b cs v0 v' l' w' := by
  have hlt := h.blk.lt
  refine ⟨h.blk.puts p h.ne, h.puts.trans p, fun k hk => ?_⟩
  rcases p.own k hk with h1 | h1
  · exact h.ne k h1
  · omega

theorem PS.start {w : World} {v0 : Value} {l : List UInt8} (h : Has w v0 l) (cs : List Value) (T : TypeId) : PS w w.heap.size cs v0 v0 l (w.alloc (.cells cs.toArray T)) := by
  refine ⟨Blk.new w cs T, Puts.quiet h ((Below.refl _ _).alloc (Nat.le_refl _) _), fun k hk => ?_⟩
  have := h.lt k hk
  omega

theorem tsz {s : List UInt8} (h : s.length ≤ 65536) : (ByteArray.mk s.toArray).size ≤ maxLen := by
  have e : (ByteArray.mk s.toArray).size = s.length := by simp [ByteArray.size]
  rw [e]; unfold maxLen; omega
theorem tlen {s l : List UInt8} (h : l.length + s.length ≤ 140737488354000) : l.length + (ByteArray.mk s.toArray).size ≤ 140737488354000 := by
  have e : (ByteArray.mk s.toArray).size = s.length := by simp [ByteArray.size]
  rw [e]; exact h
theorem tlen2 (s : List UInt8) : (putT s).length ≤ s.length + 10 := by
  unfold putT; rw [List.length_append]; have := gr_len9 s.length; omega
theorem vlen2 (a b : Int) : (putV a b).length ≤ 20 := by
  unfold putV; rw [List.length_append]; have := gr_len9 a; have := gr_len9 b; omega

set_option maxRecDepth 100000 in
set_option maxHeartbeats 1000000 in
theorem op_any (v0 : Value) (l : List UInt8) (o : OpD) (w : World) (hHas : Has w v0 l) (h0 : -9223372036854775808 ≤ o.kind ∧ o.kind ≤ 9223372036854775807) (h1 : o.key.length ≤ 65536) (h2 : o.val.length ≤ 65536) (h3 : o.old.length ≤ 65536) (hl : l.length ≤ 100000000000000) :
    Calls Try.prog 48 #[v0, .agg (cO o).toArray] w (PutsTo w v0 (l ++ putO o)) := by
  have q0 := gr_len9 o.kind
  have q1 := tlen2 o.key
  have q2 := tlen2 o.val
  have q3 := tlen2 o.old
  have q4 := (show (putB o.has).length = 1 from rfl)
  have s0 := PS.start hHas (cO o) 52
  have c0 := s0.blk.cell (j := 0) rfl
  go_enter Try.func48, Try.ntmps48
  go_wp2_with fail
  refine (put.int_any _ l o.kind _ s0.puts.has (by omega) (by omega) (by first | omega | (simp only [List.length_append]; omega))).mono ?_
  rintro r w1 ⟨v1, rfl, p1⟩
  have s1 := s0.step p1
  have c1 := s1.blk.cell (j := 1) rfl
  go_wp2_with fail
  refine (put.text_any _ (l ++ putI o.kind) ⟨(o.key).toArray⟩ _ s1.puts.has (tsz (by omega)) (tlen (by first | omega | (simp only [List.length_append]; omega)))).mono ?_
  rintro r w2 ⟨v2, rfl, p2⟩
  have s2 := s1.step p2
  have c2 := s2.blk.cell (j := 2) rfl
  go_wp2_with fail
  refine (put.text_any _ ((l ++ putI o.kind) ++ putT o.key) ⟨(o.val).toArray⟩ _ s2.puts.has (tsz (by omega)) (tlen (by first | omega | (simp only [List.length_append]; omega)))).mono ?_
  rintro r w3 ⟨v3, rfl, p3⟩
  have s3 := s2.step p3
  have c3 := s3.blk.cell (j := 3) rfl
  go_wp2_with fail
  refine (put.text_any _ (((l ++ putI o.kind) ++ putT o.key) ++ putT o.val) ⟨(o.old).toArray⟩ _ s3.puts.has (tsz (by omega)) (tlen (by first | omega | (simp only [List.length_append]; omega)))).mono ?_
  rintro r w4 ⟨v4, rfl, p4⟩
  have s4 := s3.step p4
  have c4 := s4.blk.cell (j := 4) rfl
  go_wp2_with fail
  refine (put.bool_any _ ((((l ++ putI o.kind) ++ putT o.key) ++ putT o.val) ++ putT o.old) o.has _ s4.puts.has (by first | omega | (simp only [List.length_append]; omega))).mono ?_
  rintro r w5 ⟨v5, rfl, p5⟩
  have s5 := s4.step p5
  go_wp2_with fail
  go_ret
  refine ⟨_, rfl, ?_⟩
  have := s5.puts
  unfold putO
  simp only [List.append_assoc] at this ⊢
  exact this

set_option maxRecDepth 100000 in
set_option maxHeartbeats 1000000 in
theorem ent_any (v0 : Value) (l : List UInt8) (o : EnD) (w : World) (hHas : Has w v0 l) (h0 : fit o.ep = true) (h1 : fit o.no = true) (h2 : -9223372036854775808 ≤ o.kind ∧ o.kind ≤ 9223372036854775807) (h3 : -9223372036854775808 ≤ o.sess ∧ o.sess ≤ 9223372036854775807) (h4 : -9223372036854775808 ≤ o.num ∧ o.num ≤ 9223372036854775807) (h5 : -9223372036854775808 ≤ o.code ∧ o.code ≤ 9223372036854775807) (h6 : o.key.length ≤ 65536) (h7 : o.val.length ≤ 65536) (h8 : o.res.length ≤ 65536) (hl : l.length ≤ 100000000000000) :
    Calls Try.prog 47 #[v0, .agg (cE o).toArray] w (PutsTo w v0 (l ++ putE o)) := by
  have f0 := get.fit_bounds h0
  have f1 := get.fit_bounds h1
  have T0 := Lib.hid (flt.toInt_F o.ep f0.1 (by omega))
  have T1 := Lib.hid (flt.toInt_F o.no f1.1 (by omega))
  have q0 := vlen2 o.ep o.no
  have q1 := gr_len9 o.kind
  have q2 := tlen2 o.key
  have q3 := tlen2 o.val
  have q4 := (show (putB o.write).length = 1 from rfl)
  have q5 := (show (putB o.del).length = 1 from rfl)
  have q6 := gr_len9 o.sess
  have q7 := gr_len9 o.num
  have q8 := gr_len9 o.code
  have q9 := tlen2 o.res
  have q10 := (show (putB o.has).length = 1 from rfl)
  have s0 := PS.start hHas (cE o) 48
  have c0 := s0.blk.cell (j := 0) rfl
  go_enter Try.func47, Try.ntmps47
  go_wp2_with fail
  refine (put.ver_any _ l _ _ o.ep o.no _ T0.out T1.out s0.puts.has (by omega) (by omega) (by omega) (by omega) (by first | omega | (simp only [List.length_append]; omega))).mono ?_
  rintro r w1 ⟨v1, rfl, p1⟩
  have s1 := s0.step p1
  have c1 := s1.blk.cell (j := 1) rfl
  go_wp2_with fail
  refine (put.int_any _ (l ++ putV o.ep o.no) o.kind _ s1.puts.has (by omega) (by omega) (by first | omega | (simp only [List.length_append]; omega))).mono ?_
  rintro r w2 ⟨v2, rfl, p2⟩
  have s2 := s1.step p2
  have c2 := s2.blk.cell (j := 2) rfl
  go_wp2_with fail
  refine (put.text_any _ ((l ++ putV o.ep o.no) ++ putI o.kind) ⟨(o.key).toArray⟩ _ s2.puts.has (tsz (by omega)) (tlen (by first | omega | (simp only [List.length_append]; omega)))).mono ?_
  rintro r w3 ⟨v3, rfl, p3⟩
  have s3 := s2.step p3
  have c3 := s3.blk.cell (j := 3) rfl
  go_wp2_with fail
  refine (put.text_any _ (((l ++ putV o.ep o.no) ++ putI o.kind) ++ putT o.key) ⟨(o.val).toArray⟩ _ s3.puts.has (tsz (by omega)) (tlen (by first | omega | (simp only [List.length_append]; omega)))).mono ?_
  rintro r w4 ⟨v4, rfl, p4⟩
  have s4 := s3.step p4
  have c4 := s4.blk.cell (j := 4) rfl
  go_wp2_with fail
  refine (put.bool_any _ ((((l ++ putV o.ep o.no) ++ putI o.kind) ++ putT o.key) ++ putT o.val) o.write _ s4.puts.has (by first | omega | (simp only [List.length_append]; omega))).mono ?_
  rintro r w5 ⟨v5, rfl, p5⟩
  have s5 := s4.step p5
  have c5 := s5.blk.cell (j := 5) rfl
  go_wp2_with fail
  refine (put.bool_any _ (((((l ++ putV o.ep o.no) ++ putI o.kind) ++ putT o.key) ++ putT o.val) ++ putB o.write) o.del _ s5.puts.has (by first | omega | (simp only [List.length_append]; omega))).mono ?_
  rintro r w6 ⟨v6, rfl, p6⟩
  have s6 := s5.step p6
  have c6 := s6.blk.cell (j := 6) rfl
  go_wp2_with fail
  refine (put.int_any _ ((((((l ++ putV o.ep o.no) ++ putI o.kind) ++ putT o.key) ++ putT o.val) ++ putB o.write) ++ putB o.del) o.sess _ s6.puts.has (by omega) (by omega) (by first | omega | (simp only [List.length_append]; omega))).mono ?_
  rintro r w7 ⟨v7, rfl, p7⟩
  have s7 := s6.step p7
  have c7 := s7.blk.cell (j := 7) rfl
  go_wp2_with fail
  refine (put.int_any _ (((((((l ++ putV o.ep o.no) ++ putI o.kind) ++ putT o.key) ++ putT o.val) ++ putB o.write) ++ putB o.del) ++ putI o.sess) o.num _ s7.puts.has (by omega) (by omega) (by first | omega | (simp only [List.length_append]; omega))).mono ?_
  rintro r w8 ⟨v8, rfl, p8⟩
  have s8 := s7.step p8
  have c8 := s8.blk.cell (j := 8) rfl
  go_wp2_with fail
  refine (put.int_any _ ((((((((l ++ putV o.ep o.no) ++ putI o.kind) ++ putT o.key) ++ putT o.val) ++ putB o.write) ++ putB o.del) ++ putI o.sess) ++ putI o.num) o.code _ s8.puts.has (by omega) (by omega) (by first | omega | (simp only [List.length_append]; omega))).mono ?_
  rintro r w9 ⟨v9, rfl, p9⟩
  have s9 := s8.step p9
  have c9 := s9.blk.cell (j := 9) rfl
  go_wp2_with fail
  refine (put.text_any _ (((((((((l ++ putV o.ep o.no) ++ putI o.kind) ++ putT o.key) ++ putT o.val) ++ putB o.write) ++ putB o.del) ++ putI o.sess) ++ putI o.num) ++ putI o.code) ⟨(o.res).toArray⟩ _ s9.puts.has (tsz (by omega)) (tlen (by first | omega | (simp only [List.length_append]; omega)))).mono ?_
  rintro r w10 ⟨v10, rfl, p10⟩
  have s10 := s9.step p10
  have c10 := s10.blk.cell (j := 10) rfl
  go_wp2_with fail
  refine (put.bool_any _ ((((((((((l ++ putV o.ep o.no) ++ putI o.kind) ++ putT o.key) ++ putT o.val) ++ putB o.write) ++ putB o.del) ++ putI o.sess) ++ putI o.num) ++ putI o.code) ++ putT o.res) o.has _ s10.puts.has (by first | omega | (simp only [List.length_append]; omega))).mono ?_
  rintro r w11 ⟨v11, rfl, p11⟩
  have s11 := s10.step p11
  go_wp2_with fail
  go_ret
  refine ⟨_, rfl, ?_⟩
  have := s11.puts
  unfold putE
  simp only [List.append_assoc] at this ⊢
  exact this

end Go.Proofs.Ytolgbnpginifkaa.entput
