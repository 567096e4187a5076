import Derived.Test.YtoihcdahloddkaaDoorZFind3
namespace Go.Proofs.YtoihcdahloddkaaDoor.P
open Go.RowKit Go.Proofs.YtoihcdahloddkaaDoorW.PrintWords Go.Proofs.YtoihcdahloddkaaDoorW.PrintLast Go.Proofs.YtoihcdahloddkaaDoorW.PrintMore
attribute [-simp] Int.tmod_tmod_of_dvd
set_option linter.unusedVariables false
set_option linter.unusedSimpArgs false
section
variable {Q : Exit → Act → World → Prop} {w0 w : World} {s : ByteArray} {p2 p5 : Nat} {L : Array Bool} {a : Act}
theorem gl0 (hs : L.size = 27) {i j : Nat} (hi : i < 27) (hne : j ≠ i) : (L.setIfInBounds i true).getD j false = L.getD j false := by rw [gl L i j (by omega), if_neg hne]
theorem gl1 (hs : L.size = 27) {i : Nat} (hi : i < 27) : (L.setIfInBounds i true).getD i false = true := by rw [gl L i i (by omega), if_pos rfl]
theorem not_up {i : Nat} (h : L.getD i true = false) : L.getD i false = false := by
  rw [Array.getD_eq_getD_getElem?] at h ⊢
  cases hx : L[i]? with
  | none => rfl
  | some b => rw [hx] at h; exact h
/-- a move comes up -/
theorem st_move (hI : FI w0 s p2 p5 L a w) {i d : Nat} {x : Operand} (hK : (i, d) ∈ fK) (hg : (fo i).guard = none) (hd : (fo i).dst = some d) (hop : (fo i).op = .move x ∨ (fo i).op = .assign x) (hx : a.eval x = fval s i) :
    wpOp Tryd.prog fops Q i (fun a' w' => FI w0 s p2 p5 (L.setIfInBounds i true) a' w') a w := by
  refine f_value (fK_far _ hK).2.2.2 hg hd (v := fval s i) (w1 := w) ?_ (hI.val hK)
  unfold execOp
  rcases hop with hop | hop <;> simp only [hop, hx] <;> rfl
/-- a map's entry comes up -/
theorem st_insert (hI : FI w0 s p2 p5 L a w) {i j d m : Nat} {key : ByteArray} (hi : i ∈ [3, 6, 9, 12, 14, 16]) (hg : (fo i).guard = none) (hd : (fo i).dst = none) (hop : (fo i).op = .insert 51 (.tmp 11) (.const (.string key)) (.tmp d))
    (hK : (j, d) ∈ fK) (hv : fval s j = cs_way m) (h0 : L.getD 0 false = true) (hj : L.getD j false = true) (hi0 : L.getD i true = false)
    (hf : fmap L key = none) (hf2 : ∀ k, (if k = key then some (cs_way m) else fmap L k) = fmap (L.setIfInBounds i true) k) :
    wpOp Tryd.prog fops Q i (fun a' w' => FI w0 s p2 p5 (L.setIfInBounds i true) a' w') a w := by
  have hi27 : i < 27 := by simp only [List.mem_cons, List.not_mem_nil, or_false] at hi; omega
  have hin := not_up hi0
  obtain ⟨B, b1, b2, b3, b4⟩ := hI.mp h0
  obtain ⟨w1, hrun, hm1, hfar, q1, q2, q3, q4⟩ := b3.insert (P := Tryd.prog) (mt := 51) (kt := 9) (et := 40) Tryd.underlying51 Tryd.underlying9 key (cs_way m) hf
  have hne : ∀ k o, w.heap[k]? = some o → (∀ es ck, o ≠ .map es ck) → k ≠ B := by
    intro k o hk ho e
    subst e
    obtain ⟨es, ck, h1, _⟩ := b3
    rw [hk] at h1
    exact ho es ck (Option.some.inj h1)
  have hn2 := hne p2 _ hI.h2 (fun _ _ => by simp)
  have hn5 := hne p5 _ hI.h5 (fun _ _ => by simp)
  have hvd : a.tmps.getD d undef = cs_way m := (hI.vs j d hK hj).trans hv
  refine f_skip hi27 hg hd (w1 := w1) ?_ ?_
  · unfold execOp
    simp only [hop, Act.eval, b1, hvd, Sem.run_bind, hrun]
    rfl
  · have ls := hI.ls
    have o17 : i ≠ 17 := by simp only [List.mem_cons, List.not_mem_nil, or_false] at hi; omega
    have o0 : i ≠ 0 := by simp only [List.mem_cons, List.not_mem_nil, or_false] at hi; omega
    have o24 : i ≠ 24 := by simp only [List.mem_cons, List.not_mem_nil, or_false] at hi; omega
    have o25 : i ≠ 25 := by simp only [List.mem_cons, List.not_mem_nil, or_false] at hi; omega
    refine ⟨by simpa using ls, hI.sz, hI.df, hI.t0, hI.t2, hI.t3, hI.t4, hI.t5, ?_, ?_, ?_, ?_, ?_, ?_, (hfar p2 hn2).trans hI.h2, (hfar p5 hn5).trans hI.h5, ?_⟩
    · intro i' d' hK' hL
      by_cases e : i' = i
      · subst e
        exact absurd (sp6 i' hi) (fK_far _ hK').1
      · rw [gl0 ls hi27 e] at hL; exact hI.vs i' d' hK' hL
    · intro j' hj' hL
      rw [gl0 ls hi27 (Ne.symm o0)]
      exact h0
    · intro h17
      rw [gl0 ls hi27 (Ne.symm o17)] at h17
      have := hI.c17 h17 i hi
      rw [hin] at this
      cases this
    · intro _
      refine ⟨B, b1, b2, hm1.same rfl hf2, fun h17 => ?_⟩
      rw [gl0 ls hi27 (Ne.symm o17)] at h17
      exact b4 h17
    · intro h25
      rw [gl0 ls hi27 (Ne.symm o25)] at h25
      rw [gl0 ls hi27 (Ne.symm o24)]
      exact hI.c25 h25
    · intro h24
      rw [gl0 ls hi27 (Ne.symm o24)] at h24
      obtain ⟨p6, e1, e2, e3, e4⟩ := hI.bx h24
      refine ⟨p6, e1, e2, e3, ?_⟩
      rw [gl0 ls hi27 (Ne.symm o25)]
      exact (hfar p6 (hne p6 _ e4 (fun _ _ => by simp))).trans e4
    · have hb := hI.bel
      exact ⟨q1.trans hb.os, q2.trans hb.tape, q3.trans hb.output, by rw [q4]; exact hb.size, fun k hk => (hfar k (by omega)).trans (hb.block k hk)⟩
theorem fmap_up {k : ByteArray} (h : ∀ j ∈ [3, 6, 9, 12, 14, 16], L.getD j false = true) : fmap L k = if cs_kind k = 0 then none else some (cs_way (cs_kind k)) := by
  unfold fmap cs_kind
  rw [h 3 (by decide), h 6 (by decide), h 9 (by decide), h 12 (by decide), h 14 (by decide), h 16 (by decide)]
  repeat' split
  all_goals first | rfl | contradiction | simp_all
theorem fmap_none {k : ByteArray} (h : ∀ j ∈ [3, 6, 9, 12, 14, 16], L.getD j false = false) : fmap L k = none := by
  unfold fmap
  rw [h 3 (by decide), h 6 (by decide), h 9 (by decide), h 12 (by decide), h 14 (by decide), h 16 (by decide)]
  repeat' split
  all_goals first | rfl | contradiction | simp_all
theorem st_map (hI : FI w0 s p2 p5 L a w) (hi0 : L.getD 0 true = false) : wpOp Tryd.prog fops Q 0 (fun a' w' => FI w0 s p2 p5 (L.setIfInBounds 0 true) a' w') a w := by
  have ls := hI.ls
  have h0 := not_up hi0
  have hno : ∀ j ∈ [3, 6, 9, 12, 14, 16, 17], L.getD j false = false := fun j hj => by
    cases e : L.getD j false with
    | false => rfl
    | true => have := hI.c0 j hj e; rw [h0] at this; cases this
  have hg := hI.grow (w' := w.alloc (.map #[] 0)) (below_alloc (Below.refl _ _) _)
  refine f_value (d := 11) (v := .map (some w.heap.size)) (w1 := w.alloc (.map #[] 0)) (by decide) (by kernel_rfl) (by kernel_rfl) ?_ ?_
  · have hop : (fo 0).op = .makeMap 51 none := by kernel_rfl
    unfold execOp
    simp only [hop]
    simp [Instr.makeMap]
  · have hz : 11 < a.tmps.size := by rw [hI.sz]; decide
    have e2 : ∀ j, j ≠ 11 → (a.put (some 11) (.map (some w.heap.size))).tmps.getD j undef = a.tmps.getD j undef := fun j hj => by rw [gt a 11 j _ hz, if_neg hj]
    refine ⟨by simpa using ls, by simpa [Act.put] using hI.sz, hI.df, (e2 0 (by decide)).trans hI.t0, (e2 2 (by decide)).trans hI.t2, (e2 3 (by decide)).trans hI.t3, (e2 4 (by decide)).trans hI.t4, (e2 5 (by decide)).trans hI.t5, ?_, ?_, ?_, ?_, ?_, ?_, hg.h2, hg.h5, hg.bel⟩
    · intro i d hK hL
      have q := fK_far _ hK
      have hd : d ≠ 11 := fun e => q.2.1 (by rw [show (i, d).2 = d from rfl, e]; decide)
      rw [e2 d hd]
      by_cases e : i = 0
      · subst e; exact absurd (by decide : 0 ∈ fspec) q.1
      · rw [gl0 ls (by decide) e] at hL; exact hI.vs i d hK hL
    · intro j hj hL; exact gl1 ls (by decide)
    · intro h17
      rw [gl0 ls (by decide) (by decide), hno 17 (by decide)] at h17
      cases h17
    · intro _
      refine ⟨w.heap.size, by rw [gt a 11 11 _ hz, if_pos rfl], hI.bel.size, ⟨#[], 0, heap_alloc_new _ _, by simp, fun k => ?_⟩, fun h17 => ?_⟩
      · rw [fmap_none (fun j hj => by
          have o : j ≠ 0 := by simp only [List.mem_cons, List.not_mem_nil, or_false] at hj; omega
          rw [gl0 ls (by decide) o]
          exact hno j (by simp only [List.mem_cons, List.not_mem_nil, or_false] at hj ⊢; omega))]
        rfl
      · rw [gl0 ls (by decide) (by decide), hno 17 (by decide)] at h17
        cases h17
    · intro h25
      rw [gl0 ls (by decide) (by decide)] at h25
      rw [gl0 ls (by decide) (by decide)]
      exact hI.c25 h25
    · intro h24
      rw [gl0 ls (by decide) (by decide)] at h24
      obtain ⟨p6, b1, b2, b3, b4⟩ := hg.bx h24
      exact ⟨p6, (e2 6 (by decide)).trans b1, b2, b3, by rw [gl0 ls (by decide) (by decide)]; exact b4⟩
theorem st_17 (hI : FI w0 s p2 p5 L a w) (h0 : L.getD 0 false = true) (hall : ∀ j ∈ [3, 6, 9, 12, 14, 16], L.getD j false = true) : wpOp Tryd.prog fops Q 17 (fun a' w' => FI w0 s p2 p5 (L.setIfInBounds 17 true) a' w') a w := by
  have ls := hI.ls
  obtain ⟨B, b1, b2, b3, b4⟩ := hI.mp h0
  refine f_value (d := 22) (v := .map (some B)) (w1 := w) (by decide) (by kernel_rfl) (by kernel_rfl) ?_ ?_
  · exact f_move (x := .tmp 11) (by kernel_rfl) b1
  · have hz : 22 < a.tmps.size := by rw [hI.sz]; decide
    have e2 : ∀ j, j ≠ 22 → (a.put (some 22) (.map (some B))).tmps.getD j undef = a.tmps.getD j undef := fun j hj => by rw [gt a 22 j _ hz, if_neg hj]
    refine ⟨by simpa using ls, by simpa [Act.put] using hI.sz, hI.df, (e2 0 (by decide)).trans hI.t0, (e2 2 (by decide)).trans hI.t2, (e2 3 (by decide)).trans hI.t3, (e2 4 (by decide)).trans hI.t4, (e2 5 (by decide)).trans hI.t5, ?_, ?_, ?_, ?_, ?_, ?_, hI.h2, hI.h5, hI.bel⟩
    · intro i d hK hL
      have q := fK_far _ hK
      have hd : d ≠ 22 := fun e => q.2.1 (by rw [show (i, d).2 = d from rfl, e]; decide)
      rw [e2 d hd]
      by_cases e : i = 17
      · subst e; exact absurd (by decide : 17 ∈ fspec) q.1
      · rw [gl0 ls (by decide) e] at hL; exact hI.vs i d hK hL
    · intro j hj hL; rw [gl0 ls (by decide) (by decide)]; exact h0
    · intro _ j hj
      have o : j ≠ 17 := by simp only [List.mem_cons, List.not_mem_nil, or_false] at hj; omega
      rw [gl0 ls (by decide) o]
      exact hall j hj
    · intro _
      refine ⟨B, (e2 11 (by decide)).trans b1, b2, b3.same rfl (fmap_same (fun j hj => ?_)), fun _ => by rw [gt a 22 22 _ hz, if_pos rfl]⟩
      have o : j ≠ 17 := by simp only [List.mem_cons, List.not_mem_nil, or_false] at hj; omega
      exact gl0 ls (by decide) o
    · intro h25
      rw [gl0 ls (by decide) (by decide)] at h25
      rw [gl0 ls (by decide) (by decide)]
      exact hI.c25 h25
    · intro h24
      rw [gl0 ls (by decide) (by decide)] at h24
      obtain ⟨p6, q1, q2, q3, q4⟩ := hI.bx h24
      exact ⟨p6, (e2 6 (by decide)).trans q1, q2, q3, by rw [gl0 ls (by decide) (by decide)]; exact q4⟩
theorem st_alloc (hI : FI w0 s p2 p5 L a w) (hi0 : L.getD 24 true = false) : wpOp Tryd.prog fops Q 24 (fun a' w' => FI w0 s p2 p5 (L.setIfInBounds 24 true) a' w') a w := by
  have ls := hI.ls
  have h24 := not_up hi0
  have h25 : L.getD 25 false = false := by
    cases e : L.getD 25 false with
    | false => rfl
    | true => have := hI.c25 e; rw [h24] at this; cases this
  have hg := hI.grow (w' := w.alloc (.cells (cs_cells 0) 40)) (below_alloc (Below.refl _ _) _)
  refine f_value (d := 6) (v := .pointer (some ⟨w.heap.size, 0, none⟩)) (w1 := w.alloc (.cells (cs_cells 0) 40)) (by decide) (by kernel_rfl) (by kernel_rfl) ?_ ?_
  · have hop : (fo 24).op = .alloc 40 := by kernel_rfl
    unfold execOp
    simp only [hop, Sem.run_bind, f_alloc]
    rfl
  · have hz : 6 < a.tmps.size := by rw [hI.sz]; decide
    have e2 : ∀ j, j ≠ 6 → (a.put (some 6) (.pointer (some ⟨w.heap.size, 0, none⟩))).tmps.getD j undef = a.tmps.getD j undef := fun j hj => by rw [gt a 6 j _ hz, if_neg hj]
    refine ⟨by simpa using ls, by simpa [Act.put] using hI.sz, hI.df, (e2 0 (by decide)).trans hI.t0, (e2 2 (by decide)).trans hI.t2, (e2 3 (by decide)).trans hI.t3, (e2 4 (by decide)).trans hI.t4, (e2 5 (by decide)).trans hI.t5, ?_, ?_, ?_, ?_, ?_, ?_, hg.h2, hg.h5, hg.bel⟩
    · intro i d hK hL
      have q := fK_far _ hK
      have hd : d ≠ 6 := fun e => q.2.1 (by rw [show (i, d).2 = d from rfl, e]; decide)
      rw [e2 d hd]
      by_cases e : i = 24
      · subst e; exact absurd (by decide : 24 ∈ fspec) q.1
      · rw [gl0 ls (by decide) e] at hL; exact hI.vs i d hK hL
    · intro j hj hL
      have o : j ≠ 24 := by simp only [List.mem_cons, List.not_mem_nil, or_false] at hj; omega
      rw [gl0 ls (by decide) o] at hL
      rw [gl0 ls (by decide) (by decide)]
      exact hI.c0 j hj hL
    · intro h17 j hj
      have o : j ≠ 24 := by simp only [List.mem_cons, List.not_mem_nil, or_false] at hj; omega
      rw [gl0 ls (by decide) (by decide)] at h17
      rw [gl0 ls (by decide) o]
      exact hI.c17 h17 j hj
    · intro h0
      rw [gl0 ls (by decide) (by decide)] at h0
      obtain ⟨B, b1, b2, b3, b4⟩ := hg.mp h0
      refine ⟨B, (e2 11 (by decide)).trans b1, b2, b3.same rfl (fmap_same (fun j hj => ?_)), fun h17 => ?_⟩
      · have o : j ≠ 24 := by simp only [List.mem_cons, List.not_mem_nil, or_false] at hj; omega
        exact gl0 ls (by decide) o
      · rw [gl0 ls (by decide) (by decide)] at h17
        exact (e2 22 (by decide)).trans (b4 h17)
    · intro h
      exact gl1 ls (by decide)
    · intro _
      refine ⟨w.heap.size, by rw [gt a 6 6 _ hz, if_pos rfl], hI.bel.size, fun e => absurd (blk_lt hI.h2) (by omega), ?_⟩
      rw [gl0 ls (by decide) (by decide), if_neg (by rw [h25]; decide)]
      exact heap_alloc_new _ _
theorem st_store (hI : FI w0 s p2 p5 L a w) (h24 : L.getD 24 false = true) (h22 : L.getD 22 false = true) (hi0 : L.getD 25 true = false) : wpOp Tryd.prog fops Q 25 (fun a' w' => FI w0 s p2 p5 (L.setIfInBounds 25 true) a' w') a w := by
  have ls := hI.ls
  have h25 := not_up hi0
  obtain ⟨p6, b1, b2, b3, b4⟩ := hI.bx h24
  rw [if_neg (by rw [h25]; decide)] at b4
  obtain ⟨w1, hrun, g1, hfar, q1, q2, q3, q4⟩ := f_store (cs_kind (cs_fold s)) p6 w b4
  have hv : a.tmps.getD 26 undef = cs_way (cs_kind (cs_fold s)) := hI.vs 22 26 (by decide) h22
  have hp5 : p5 ≠ p6 := by
    intro e
    have := hI.h5
    rw [e, b4] at this
    simp [cs_cells] at this
  refine f_skip (w1 := w1) (by decide) (by kernel_rfl) (by kernel_rfl) ?_ ?_
  · have hop : (fo 25).op = .store 40 (.tmp 6) (.tmp 26) := by kernel_rfl
    unfold execOp
    simp only [hop, Act.eval, b1, hv, Sem.run_bind, hrun]
    rfl
  · refine ⟨by simpa using ls, hI.sz, hI.df, hI.t0, hI.t2, hI.t3, hI.t4, hI.t5, ?_, ?_, ?_, ?_, ?_, ?_, (hfar p2 (Ne.symm b3)).trans hI.h2, (hfar p5 hp5).trans hI.h5, ?_⟩
    · intro i d hK hL
      by_cases e : i = 25
      · subst e; exact absurd (by decide : 25 ∈ fspec) (fK_far _ hK).1
      · rw [gl0 ls (by decide) e] at hL; exact hI.vs i d hK hL
    · intro j hj hL
      have o : j ≠ 25 := by simp only [List.mem_cons, List.not_mem_nil, or_false] at hj; omega
      rw [gl0 ls (by decide) o] at hL
      rw [gl0 ls (by decide) (by decide)]
      exact hI.c0 j hj hL
    · intro h17 j hj
      have o : j ≠ 25 := by simp only [List.mem_cons, List.not_mem_nil, or_false] at hj; omega
      rw [gl0 ls (by decide) (by decide)] at h17
      rw [gl0 ls (by decide) o]
      exact hI.c17 h17 j hj
    · intro h0
      rw [gl0 ls (by decide) (by decide)] at h0
      obtain ⟨B, c1, c2, c3, c4⟩ := hI.mp h0
      have hB : B ≠ p6 := by
        intro e
        obtain ⟨es, ck, h1, _⟩ := c3
        rw [e, b4] at h1
        simp at h1
      refine ⟨B, c1, c2, c3.same (hfar B hB) (fmap_same (fun j hj => ?_)), fun h17 => ?_⟩
      · have o : j ≠ 25 := by simp only [List.mem_cons, List.not_mem_nil, or_false] at hj; omega
        exact gl0 ls (by decide) o
      · rw [gl0 ls (by decide) (by decide)] at h17
        exact c4 h17
    · intro _; rw [gl0 ls (by decide) (by decide)]; exact h24
    · intro _; exact ⟨p6, b1, b2, b3, by rw [gl1 ls (by decide), if_pos rfl]; exact g1⟩
    · have hb := hI.bel
      exact ⟨q1.trans hb.os, q2.trans hb.tape, q3.trans hb.output, by rw [q4]; exact hb.size, fun k hk => (hfar k (by omega)).trans (hb.block k hk)⟩
end
end Go.Proofs.YtoihcdahloddkaaDoor.P
