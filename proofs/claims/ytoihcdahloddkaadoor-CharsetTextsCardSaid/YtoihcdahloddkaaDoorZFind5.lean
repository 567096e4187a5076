import Derived.Test.YtoihcdahloddkaaDoorZFind4
namespace Go.Proofs.YtoihcdahloddkaaDoor.P
open Go.RowKit Go.Proofs.YtoihcdahloddkaaDoorW.PrintWords Go.Proofs.YtoihcdahloddkaaDoorW.PrintLast Go.Proofs.YtoihcdahloddkaaDoorW.PrintMore
attribute [-simp] Int.tmod_tmod_of_dvd
set_option linter.unusedVariables false
set_option linter.unusedSimpArgs false
section
variable {Q : Exit → Act → World → Prop} {w0 w : World} {s : ByteArray} {p2 p5 : Nat} {L : Array Bool} {a : Act}
theorem st_narrow (hI : FI w0 s p2 p5 L a w) {i d c : Nat} {n : Int} (hK : (i, d) ∈ fK) (hg : (fo i).guard = none) (hd : (fo i).dst = some d) (hop : (fo i).op = .call { callee := .value (.tmp c), args := #[.const (.int .i32 n)], argTypes := #[21] })
    (hc : a.tmps.getD c undef = .func (.func 19) #[] #[]) (hv : fval s i = .agg #[.int .i32 n, .func (.func 20) #[] #[], .func (.func 21) #[] #[]]) :
    wpOp Tryd.prog fops Q i (fun a' w' => FI w0 s p2 p5 (L.setIfInBounds i true) a' w') a w := by
  refine f_call (fK_far _ hK).2.2.2 hg hd Tryd.func19 (by kernel_rfl) rfl hop hc (args := #[.int .i32 n]) (by simp [Act.eval]) ((cs_narrow n w).mono fun e w' h => ?_)
  obtain ⟨rfl, hb⟩ := h
  exact ⟨_, rfl, hv ▸ (hI.grow hb).val hK⟩
theorem st_load (hI : FI w0 s p2 p5 L a w) {i d : Nat} (hK : (i, d) ∈ fK) (hg : (fo i).guard = none) (hd : (fo i).dst = some d) (hop : (fo i).op = .load 40 (.tmp 5)) (hv : fval s i = cs_way 3) :
    wpOp Tryd.prog fops Q i (fun a' w' => FI w0 s p2 p5 (L.setIfInBounds i true) a' w') a w := by
  refine f_value (fK_far _ hK).2.2.2 hg hd (v := fval s i) (w1 := w) ?_ (hI.val hK)
  unfold execOp
  simp only [hop, Act.eval, hI.t5, Sem.run_bind, f_load 3 p5 w hI.h5, hv]
  rfl
theorem st_part (hI : FI w0 s p2 p5 L a w) {i d n : Nat} (hK : (i, d) ∈ fK) (hg : (fo i).guard = none) (hd : (fo i).dst = some d) (hop : (fo i).op = .extract (.tmp 10) n)
    (hc : a.tmps.getD 10 undef = .tuple #[cs_way (cs_kind (cs_fold s)), .bool (cs_kind (cs_fold s) != 0)]) (hv : #[cs_way (cs_kind (cs_fold s)), .bool (cs_kind (cs_fold s) != 0)][n]? = some (fval s i)) :
    wpOp Tryd.prog fops Q i (fun a' w' => FI w0 s p2 p5 (L.setIfInBounds i true) a' w') a w := by
  refine f_value (fK_far _ hK).2.2.2 hg hd (v := fval s i) (w1 := w) ?_ (hI.val hK)
  unfold execOp
  simp only [hop, Act.eval, hc]
  simp [Instr.extract, hv]
theorem st_fold (hs : s.size ≤ 9223372036854775807) (hI : FI w0 s p2 p5 L a w) (hc : a.tmps.getD 23 undef = .string s) :
    wpOp Tryd.prog fops Q 19 (fun a' w' => FI w0 s p2 p5 (L.setIfInBounds 19 true) a' w') a w := by
  have hf : chars_Fold.f s = some (cs_fold s) := if_pos hs
  refine f_call (i := 19) (d := 24) (by decide) (by kernel_rfl) (by kernel_rfl) (f := 24) Tryd.func24 (by kernel_rfl) rfl (c := .func 24) (xs := #[.tmp 23]) (ts := #[9]) (by kernel_rfl) rfl (args := #[.string s]) (by simp [Act.eval, hc]) ((chars_Fold.calls s _ w hf).mono fun e w' h => ?_)
  obtain ⟨rfl, hb⟩ := h
  exact ⟨_, rfl, (hI.grow hb).val (i := 19) (d := 24) (by decide)⟩
theorem st_look (hI : FI w0 s p2 p5 L a w) (h17 : L.getD 17 false = true) (hc : a.tmps.getD 24 undef = .string (cs_fold s)) :
    wpOp Tryd.prog fops Q 20 (fun a' w' => FI w0 s p2 p5 (L.setIfInBounds 20 true) a' w') a w := by
  obtain ⟨B, b1, b2, b3, b4⟩ := hI.mp (hI.c0 17 (by decide) h17)
  have hlk := b3.lookup (P := Tryd.prog) (mt := 51) (kt := 9) (et := 40) Tryd.underlying51 Tryd.underlying9 (cs_fold s) (f_zero w)
  rw [fmap_up (hI.c17 h17)] at hlk
  have hval : (Value.tuple #[(if cs_kind (cs_fold s) = 0 then none else some (cs_way (cs_kind (cs_fold s)))).getD (cs_way 0), .bool (if cs_kind (cs_fold s) = 0 then none else some (cs_way (cs_kind (cs_fold s)))).isSome]) = fval s 20 := by
    show _ = Value.tuple #[cs_way (cs_kind (cs_fold s)), .bool (cs_kind (cs_fold s) != 0)]
    by_cases h : cs_kind (cs_fold s) = 0
    · rw [if_pos h, h]; rfl
    · rw [if_neg h]
      have : (cs_kind (cs_fold s) != 0) = true := by simpa using h
      rw [this]; rfl
  rw [hval] at hlk
  refine f_value (i := 20) (d := 25) (by decide) (by kernel_rfl) (by kernel_rfl) (v := fval s 20) (w1 := w) ?_ (hI.val (by decide))
  have hop : (fo 20).op = .lookup 51 (.tmp 22) (.tmp 24) true := by kernel_rfl
  unfold execOp
  simp only [hop, Act.eval, b4 h17, hc, Sem.run_bind, hlk]
  rfl
theorem fm_none3 (h : L.getD 3 false = false) : fmap L cs_k3 = none := by
  unfold fmap
  rw [h]
  repeat' split
  all_goals first | rfl | contradiction | (exfalso; revert ‹cs_k3 = _›; decide) | simp_all
theorem fm_set3 (ls : L.size = 27) (k : ByteArray) : (if k = cs_k3 then some (cs_way 1) else fmap L k) = fmap (L.setIfInBounds 3 true) k := by
  by_cases e : k = cs_k3
  · subst e
    rw [if_pos rfl]
    unfold fmap
    rw [gl1 ls (by decide)]
    rw [if_pos rfl, if_pos rfl]
  · rw [if_neg e]
    unfold fmap
    rw [gl0 ls (by decide) (by decide : 6 ≠ 3), gl0 ls (by decide) (by decide : 9 ≠ 3), gl0 ls (by decide) (by decide : 12 ≠ 3), gl0 ls (by decide) (by decide : 14 ≠ 3), gl0 ls (by decide) (by decide : 16 ≠ 3)]
    simp only [e, if_false]
theorem fm_none6 (h : L.getD 6 false = false) : fmap L cs_k6 = none := by
  unfold fmap
  rw [h]
  repeat' split
  all_goals first | rfl | contradiction | (exfalso; revert ‹cs_k6 = _›; decide) | simp_all
theorem fm_set6 (ls : L.size = 27) (k : ByteArray) : (if k = cs_k6 then some (cs_way 1) else fmap L k) = fmap (L.setIfInBounds 6 true) k := by
  by_cases e : k = cs_k6
  · subst e
    rw [if_pos rfl]
    unfold fmap
    rw [gl1 ls (by decide)]
    rw [if_neg (by decide)]
    rw [if_pos rfl, if_pos rfl]
  · rw [if_neg e]
    unfold fmap
    rw [gl0 ls (by decide) (by decide : 3 ≠ 6), gl0 ls (by decide) (by decide : 9 ≠ 6), gl0 ls (by decide) (by decide : 12 ≠ 6), gl0 ls (by decide) (by decide : 14 ≠ 6), gl0 ls (by decide) (by decide : 16 ≠ 6)]
    simp only [e, if_false]
theorem fm_none9 (h : L.getD 9 false = false) : fmap L cs_k9 = none := by
  unfold fmap
  rw [h]
  repeat' split
  all_goals first | rfl | contradiction | (exfalso; revert ‹cs_k9 = _›; decide) | simp_all
theorem fm_set9 (ls : L.size = 27) (k : ByteArray) : (if k = cs_k9 then some (cs_way 2) else fmap L k) = fmap (L.setIfInBounds 9 true) k := by
  by_cases e : k = cs_k9
  · subst e
    rw [if_pos rfl]
    unfold fmap
    rw [gl1 ls (by decide)]
    rw [if_neg (by decide)]
    rw [if_neg (by decide)]
    rw [if_pos rfl, if_pos rfl]
  · rw [if_neg e]
    unfold fmap
    rw [gl0 ls (by decide) (by decide : 3 ≠ 9), gl0 ls (by decide) (by decide : 6 ≠ 9), gl0 ls (by decide) (by decide : 12 ≠ 9), gl0 ls (by decide) (by decide : 14 ≠ 9), gl0 ls (by decide) (by decide : 16 ≠ 9)]
    simp only [e, if_false]
theorem fm_none12 (h : L.getD 12 false = false) : fmap L cs_k12 = none := by
  unfold fmap
  rw [h]
  repeat' split
  all_goals first | rfl | contradiction | (exfalso; revert ‹cs_k12 = _›; decide) | simp_all
theorem fm_set12 (ls : L.size = 27) (k : ByteArray) : (if k = cs_k12 then some (cs_way 2) else fmap L k) = fmap (L.setIfInBounds 12 true) k := by
  by_cases e : k = cs_k12
  · subst e
    rw [if_pos rfl]
    unfold fmap
    rw [gl1 ls (by decide)]
    rw [if_neg (by decide)]
    rw [if_neg (by decide)]
    rw [if_neg (by decide)]
    rw [if_pos rfl, if_pos rfl]
  · rw [if_neg e]
    unfold fmap
    rw [gl0 ls (by decide) (by decide : 3 ≠ 12), gl0 ls (by decide) (by decide : 6 ≠ 12), gl0 ls (by decide) (by decide : 9 ≠ 12), gl0 ls (by decide) (by decide : 14 ≠ 12), gl0 ls (by decide) (by decide : 16 ≠ 12)]
    simp only [e, if_false]
theorem fm_none14 (h : L.getD 14 false = false) : fmap L cs_k14 = none := by
  unfold fmap
  rw [h]
  repeat' split
  all_goals first | rfl | contradiction | (exfalso; revert ‹cs_k14 = _›; decide) | simp_all
theorem fm_set14 (ls : L.size = 27) (k : ByteArray) : (if k = cs_k14 then some (cs_way 3) else fmap L k) = fmap (L.setIfInBounds 14 true) k := by
  by_cases e : k = cs_k14
  · subst e
    rw [if_pos rfl]
    unfold fmap
    rw [gl1 ls (by decide)]
    rw [if_neg (by decide)]
    rw [if_neg (by decide)]
    rw [if_neg (by decide)]
    rw [if_neg (by decide)]
    rw [if_pos rfl, if_pos rfl]
  · rw [if_neg e]
    unfold fmap
    rw [gl0 ls (by decide) (by decide : 3 ≠ 14), gl0 ls (by decide) (by decide : 6 ≠ 14), gl0 ls (by decide) (by decide : 9 ≠ 14), gl0 ls (by decide) (by decide : 12 ≠ 14), gl0 ls (by decide) (by decide : 16 ≠ 14)]
    simp only [e, if_false]
theorem fm_none16 (h : L.getD 16 false = false) : fmap L cs_k16 = none := by
  unfold fmap
  rw [h]
  repeat' split
  all_goals first | rfl | contradiction | (exfalso; revert ‹cs_k16 = _›; decide) | simp_all
theorem fm_set16 (ls : L.size = 27) (k : ByteArray) : (if k = cs_k16 then some (cs_way 3) else fmap L k) = fmap (L.setIfInBounds 16 true) k := by
  by_cases e : k = cs_k16
  · subst e
    rw [if_pos rfl]
    unfold fmap
    rw [gl1 ls (by decide)]
    rw [if_neg (by decide)]
    rw [if_neg (by decide)]
    rw [if_neg (by decide)]
    rw [if_neg (by decide)]
    rw [if_neg (by decide)]
    rw [if_pos rfl, if_pos rfl]
  · rw [if_neg e]
    unfold fmap
    rw [gl0 ls (by decide) (by decide : 3 ≠ 16), gl0 ls (by decide) (by decide : 6 ≠ 16), gl0 ls (by decide) (by decide : 9 ≠ 16), gl0 ls (by decide) (by decide : 12 ≠ 16), gl0 ls (by decide) (by decide : 14 ≠ 16)]
    simp only [e, if_false]
theorem nd2 : needsOf .any (fo 2) = [1] := by kernel_rfl
theorem nd3 : needsOf .any (fo 3) = [0, 2] := by kernel_rfl
theorem nd5 : needsOf .any (fo 5) = [4, 2] := by kernel_rfl
theorem nd6 : needsOf .any (fo 6) = [0, 5] := by kernel_rfl
theorem nd8 : needsOf .any (fo 8) = [7, 5] := by kernel_rfl
theorem nd9 : needsOf .any (fo 9) = [0, 8] := by kernel_rfl
theorem nd11 : needsOf .any (fo 11) = [10, 8] := by kernel_rfl
theorem nd12 : needsOf .any (fo 12) = [0, 11] := by kernel_rfl
theorem nd14 : needsOf .any (fo 14) = [0, 13] := by kernel_rfl
theorem nd16 : needsOf .any (fo 16) = [0, 15] := by kernel_rfl
theorem nd17 : needsOf .any (fo 17) = [0, 1, 2, 3, 4, 5, 6, 7, 8, 9, 10, 11, 12, 13, 14, 15, 16] := by kernel_rfl
theorem nd19 : needsOf .any (fo 19) = [18, 11] := by kernel_rfl
theorem nd20 : needsOf .any (fo 20) = [17, 19] := by kernel_rfl
theorem nd21 : needsOf .any (fo 21) = [20] := by kernel_rfl
theorem nd22 : needsOf .any (fo 22) = [21] := by kernel_rfl
theorem nd23 : needsOf .any (fo 23) = [21] := by kernel_rfl
theorem nd25 : needsOf .any (fo 25) = [24, 22, 19, 0, 1, 2, 3, 4, 5, 6, 7, 8, 9, 10, 11, 12, 13, 14, 15, 16, 17, 18, 19, 20, 21, 22, 24] := by kernel_rfl
theorem nd26 : needsOf .any (fo 26) = [23, 25, 0, 1, 2, 3, 4, 5, 6, 7, 8, 9, 10, 11, 12, 13, 14, 15, 16, 17, 18, 19, 20, 21, 22, 23, 24, 25] := by kernel_rfl
set_option maxHeartbeats 2000000 in
theorem st_all (hs : s.size ≤ 9223372036854775807) {i : Nat} (hi : i ∈ Region.ready .any fops L) (hI : FI w0 s p2 p5 L a w) : wpOp Tryd.prog fops Q i (fun a' w' => FI w0 s p2 p5 (L.setIfInBounds i true) a' w') a w := by
  obtain ⟨h27, h0, hn⟩ := f_ready hi
  have ls := hI.ls
  have hup : ∀ {j d v}, (j, d) ∈ fK → L.getD j false = true → fval s j = v → a.tmps.getD d undef = v := fun hK hj hv => (hI.vs _ _ hK hj).trans hv
  clear hi
  have hcase : i = 0 ∨ i = 1 ∨ i = 2 ∨ i = 3 ∨ i = 4 ∨ i = 5 ∨ i = 6 ∨ i = 7 ∨ i = 8 ∨ i = 9 ∨ i = 10 ∨ i = 11 ∨ i = 12 ∨ i = 13 ∨ i = 14 ∨ i = 15 ∨ i = 16 ∨ i = 17 ∨ i = 18 ∨ i = 19 ∨ i = 20 ∨ i = 21 ∨ i = 22 ∨ i = 23 ∨ i = 24 ∨ i = 25 ∨ i = 26 := by omega
  rcases hcase with rfl | rfl | rfl | rfl | rfl | rfl | rfl | rfl | rfl | rfl | rfl | rfl | rfl | rfl | rfl | rfl | rfl | rfl | rfl | rfl | rfl | rfl | rfl | rfl | rfl | rfl | rfl
  · exact st_map hI h0
  · exact st_move hI (i := 1) (d := 12) (x := .tmp 4) (by decide) (by kernel_rfl) (by kernel_rfl) (.inl (by kernel_rfl)) hI.t4
  · exact st_narrow hI (i := 2) (d := 13) (c := 12) (n := 128) (by decide) (by kernel_rfl) (by kernel_rfl) (by kernel_rfl) (hup (j := 1) (by decide) (hn _ (by rw [nd2]; decide)) rfl) rfl
  · exact st_insert hI (i := 3) (j := 2) (d := 13) (m := 1) (key := cs_k3) (by decide) (by kernel_rfl) (by kernel_rfl) (by kernel_rfl) (by decide) rfl (hn _ (by rw [nd3]; decide)) (hn _ (by rw [nd3]; decide)) h0 (fm_none3 (not_up h0)) (fm_set3 ls)
  · exact st_move hI (i := 4) (d := 14) (x := .tmp 4) (by decide) (by kernel_rfl) (by kernel_rfl) (.inl (by kernel_rfl)) hI.t4
  · exact st_narrow hI (i := 5) (d := 15) (c := 14) (n := 128) (by decide) (by kernel_rfl) (by kernel_rfl) (by kernel_rfl) (hup (j := 4) (by decide) (hn _ (by rw [nd5]; decide)) rfl) rfl
  · exact st_insert hI (i := 6) (j := 5) (d := 15) (m := 1) (key := cs_k6) (by decide) (by kernel_rfl) (by kernel_rfl) (by kernel_rfl) (by decide) rfl (hn _ (by rw [nd6]; decide)) (hn _ (by rw [nd6]; decide)) h0 (fm_none6 (not_up h0)) (fm_set6 ls)
  · exact st_move hI (i := 7) (d := 16) (x := .tmp 4) (by decide) (by kernel_rfl) (by kernel_rfl) (.inl (by kernel_rfl)) hI.t4
  · exact st_narrow hI (i := 8) (d := 17) (c := 16) (n := 256) (by decide) (by kernel_rfl) (by kernel_rfl) (by kernel_rfl) (hup (j := 7) (by decide) (hn _ (by rw [nd8]; decide)) rfl) rfl
  · exact st_insert hI (i := 9) (j := 8) (d := 17) (m := 2) (key := cs_k9) (by decide) (by kernel_rfl) (by kernel_rfl) (by kernel_rfl) (by decide) rfl (hn _ (by rw [nd9]; decide)) (hn _ (by rw [nd9]; decide)) h0 (fm_none9 (not_up h0)) (fm_set9 ls)
  · exact st_move hI (i := 10) (d := 18) (x := .tmp 4) (by decide) (by kernel_rfl) (by kernel_rfl) (.inl (by kernel_rfl)) hI.t4
  · exact st_narrow hI (i := 11) (d := 19) (c := 18) (n := 256) (by decide) (by kernel_rfl) (by kernel_rfl) (by kernel_rfl) (hup (j := 10) (by decide) (hn _ (by rw [nd11]; decide)) rfl) rfl
  · exact st_insert hI (i := 12) (j := 11) (d := 19) (m := 2) (key := cs_k12) (by decide) (by kernel_rfl) (by kernel_rfl) (by kernel_rfl) (by decide) rfl (hn _ (by rw [nd12]; decide)) (hn _ (by rw [nd12]; decide)) h0 (fm_none12 (not_up h0)) (fm_set12 ls)
  · exact st_load hI (i := 13) (d := 20) (by decide) (by kernel_rfl) (by kernel_rfl) (by kernel_rfl) rfl
  · exact st_insert hI (i := 14) (j := 13) (d := 20) (m := 3) (key := cs_k14) (by decide) (by kernel_rfl) (by kernel_rfl) (by kernel_rfl) (by decide) rfl (hn _ (by rw [nd14]; decide)) (hn _ (by rw [nd14]; decide)) h0 (fm_none14 (not_up h0)) (fm_set14 ls)
  · exact st_load hI (i := 15) (d := 21) (by decide) (by kernel_rfl) (by kernel_rfl) (by kernel_rfl) rfl
  · exact st_insert hI (i := 16) (j := 15) (d := 21) (m := 3) (key := cs_k16) (by decide) (by kernel_rfl) (by kernel_rfl) (by kernel_rfl) (by decide) rfl (hn _ (by rw [nd16]; decide)) (hn _ (by rw [nd16]; decide)) h0 (fm_none16 (not_up h0)) (fm_set16 ls)
  · exact st_17 hI (hn _ (by rw [nd17]; decide)) (fun j hj => hn _ (by rw [nd17]; revert j; decide))
  · exact st_move hI (i := 18) (d := 23) (x := .tmp 0) (by decide) (by kernel_rfl) (by kernel_rfl) (.inl (by kernel_rfl)) hI.t0
  · exact st_fold hs hI (hup (j := 18) (by decide) (hn _ (by rw [nd19]; decide)) rfl)
  · exact st_look hI (hn _ (by rw [nd20]; decide)) (hup (j := 19) (by decide) (hn _ (by rw [nd20]; decide)) rfl)
  · exact st_move hI (i := 21) (d := 10) (x := .tmp 25) (by decide) (by kernel_rfl) (by kernel_rfl) (.inl (by kernel_rfl)) (hup (j := 20) (by decide) (hn _ (by rw [nd21]; decide)) rfl)
  · exact st_part hI (i := 22) (d := 26) (n := 0) (by decide) (by kernel_rfl) (by kernel_rfl) (by kernel_rfl) (hup (j := 21) (by decide) (hn _ (by rw [nd22]; decide)) rfl) rfl
  · exact st_part hI (i := 23) (d := 27) (n := 1) (by decide) (by kernel_rfl) (by kernel_rfl) (by kernel_rfl) (hup (j := 21) (by decide) (hn _ (by rw [nd23]; decide)) rfl) rfl
  · exact st_alloc hI h0
  · exact st_store hI (hn _ (by rw [nd25]; decide)) (hn _ (by rw [nd25]; decide)) h0
  · exact st_move hI (i := 26) (d := 7) (x := .tmp 27) (by decide) (by kernel_rfl) (by kernel_rfl) (.inr (by kernel_rfl)) (hup (j := 23) (by decide) (hn _ (by rw [nd26]; decide)) rfl)
theorem st_end {hI : FI w0 s p2 p5 L a w} (hr : Region.ready .any fops L = []) : ∀ j, j < 27 → L.getD j false = true := fun j hj => all_up f_low' (by rw [fsize]; exact hI.ls) hr j (by rw [fsize]; exact hj)
/-- the region of find, whatever order it draws -/
theorem find_region (hs : s.size ≤ 9223372036854775807) (hI : FI w0 s p2 p5 (Array.replicate 27 false) a w)
    (hQ : ∀ a' w' p6, a'.tmps.size = 30 → a'.defers = [] → a'.tmps.getD 2 undef = .pointer (some ⟨p2, 0, none⟩) → a'.tmps.getD 6 undef = .pointer (some ⟨p6, 0, none⟩) → p6 ≠ p2 → a'.tmps.getD 7 undef = .bool (cs_kind (cs_fold s) != 0) →
      w'.heap[p6]? = some (.cells (cs_cells (cs_kind (cs_fold s))) 40 (0, 0)) → w'.heap[p2]? = some (.cells (cs_cells 0) 40 (0, 0)) → Below w0.heap.size w0 w' → Q .normal a' w') :
    wpAny Tryd.prog .any fops Q fops.size (Array.replicate fops.size false) a w := by
  rw [fsize]
  refine inv_any (I := FI w0 s p2 p5) (fun i L a w _ hi hI => st_all hs hi hI) (fun L a' w' hL hr hI => ?_) 27 _ a w (by rw [fsize]; simp) (by simp) hI
  have up := st_end (hI := hI) hr
  obtain ⟨p6, e1, e2, e3, e4⟩ := hI.bx (up 24 (by decide))
  rw [up 25 (by decide), if_pos rfl] at e4
  exact hQ a' w' p6 hI.sz hI.df hI.t2 e1 e3 (hI.vs 26 7 (by decide) (up 26 (by decide))) e4 hI.h2 hI.bel
end
end Go.Proofs.YtoihcdahloddkaaDoor.P
