import Derived.Test.YtcjepgofcojeoaaZFi
namespace Go.Proofs.Ytcjepgofcojeoaa.P
open Go.RowKit Go.Proofs.YtcjepgofcojeoaaW.PrintWords Go.Proofs.YtcjepgofcojeoaaW.PrintLast Go.Proofs.YtcjepgofcojeoaaW.PrintMore
attribute [-simp] Int.tmod_tmod_of_dvd
set_option linter.unusedVariables false
set_option linter.unusedSimpArgs false
set_option maxHeartbeats 4000000 in
set_option maxRecDepth 100000 in
theorem rd_item (w0 : World) (g : Nat) (f : RdF) (b : Bool) (hrec : b = false → RdC w0 g f 12 true) (hf : Fit f) : RdC w0 g (itemP f b) 21 b := by
  intro w l v out h hp hol
  have hq := pOk.words hp
  have hl0 := hp.1
  have HR := Aside0.mk h
  clear h
  obtain ⟨ws, l1, e1⟩ : ∃ ws l1, wordsP l = (ws, l1) := ⟨_, _, rfl⟩
  obtain ⟨b2, l2, e2⟩ : ∃ b2 l2, isP l1 60 = (b2, l2) := ⟨_, _, rfl⟩
  rw [e1] at hq
  simp only at hq
  have hp2 := hq.2.1.is 60
  have hle2 := isP_len l1 60
  rw [e2] at hp2 hle2
  simp only at hp2 hle2
  have HWN := Aside0.mk hq.1
  have hsum := hq.2.2
  obtain ⟨R, hR⟩ : ∃ R, itemP f b l = R := ⟨_, rfl⟩
  rw [hR]
  unfold itemP at hR
  simp only at hR
  rw [e1] at hR
  simp only at hR
  rw [e2] at hR
  simp only at hR
  clear hq
  cases b2 with
  | true =>
    rw [if_pos rfl] at hR
    have HRR := Aside0.mk hR
    clear hR
    go_enter Try.func21, Try.ntmps21
    go_wp2_with (first | (go_at_call 28; refine (rd_words w0 _ g l v HR.out.hd hl0).mono ?_; rw [e1]; rintro e w1 ⟨v1, rfl, r1, h1, k1⟩; obtain ⟨Aw, cw, rfl⟩ := Kd.R_slice r1; have H1 := Aside0.mk (HR.out.keep h1 k1); have HWC := Aside0.mk (Kd.R_reads' r1).2.1; have HF1 := Aside0.mk (Kd.C_foot_own (g := g) (Kd.R_mono (Kd.R_bound r1) (ok' := fun k => k ≠ g) (fun k hk => by have := hk.2.1; have := HR.out.hd.lt; omega)) (fun _ hk => hk)); clear h1 k1 r1) | (go_at_call 22; with_reducible refine (rd_is w0 _ g l1 v 60 H1.out.hd).mono ?_; rw [e2]; rintro e w2 ⟨rfl, h2, k2⟩; have H2 := Aside0.mk (H1.out.keep h2 k2); have HF2 := Aside0.mk (Kd.C_foot_step HF1.out k2); have H3 := H2; have HF3 := HF2; clear h2 k2) | (go_at_call 29; refine (rd_angle w0 _ g l2 v out Aw cw _ H2.out hp2 HF2.out HWC.out HWN.out (by omega)).mono ?_; rintro e w5 ⟨v5, rfl, h5⟩; have H5 := Aside0.mk h5; clear h5) | (go_at_call 22; with_reducible refine (rd_is w0 _ g l2 v 58 H2.out.hd).mono ?_; rw [e3]; rintro e w3 ⟨rfl, h3, k3⟩; clear H3 HF3; have H3 := Aside0.mk (H2.out.keep h3 k3); have HF3 := Aside0.mk (Kd.C_foot_step HF2.out k3); have hc1 := (H3.out.below (below_drew1 (Below.refl _ _))).hd.out1.1; clear h3 k3) | (go_at_call 31; refine (rd_host w0 _ g _ v H3.out.hd).mono ?_; rw [e6]; rintro e w6 ⟨rfl, h6, k6⟩; have H6 := Aside0.mk (H3.out.keep h6 k6); have HF6 := Aside0.mk (Kd.C_foot_step HF3.out k6); have hc1 := (H6.out.below (below_drew1 (Below.refl _ _))).hd.out1.1; clear h6 k6))
    go_ret
    rw [← HRR.out]
    exact ⟨_, rfl, H5.out⟩
  | false =>
    rw [if_neg (by decide)] at hR
    obtain ⟨b3, l3, e3⟩ : ∃ b3 l3, (if b = true then (false, l2) else isP l2 58) = (b3, l3) := ⟨_, _, rfl⟩
    rw [e3] at hR
    simp only at hR
    have h5 : pOk l3 ∧ l3.length ≤ l2.length ∧ (b3 = true → l3.length + 1 = l2.length ∧ b = false) ∧ (b = false → isP l2 58 = (b3, l3)) ∧ (b = true → l3 = l2) := by
      cases b with
      | true =>
        rw [if_pos rfl] at e3
        obtain ⟨rfl, rfl⟩ := Prod.mk.inj e3
        exact ⟨hp2, Nat.le_refl _, fun e => by (cases e), fun e => by (cases e), fun _ => rfl⟩
      | false =>
        rw [if_neg (by decide)] at e3
        have h6 := hp2.is 58
        have h7 := isP_len l2 58
        rw [e3] at h6 h7
        exact ⟨h6, h7, fun e => by subst e; exact ⟨isP_true e3, rfl⟩, fun _ => e3, fun e => by (cases e)⟩
    clear e3
    obtain ⟨hp3, hle3, h3t, h3f, h3b⟩ := h5
    cases b3 with
    | true =>
      obtain ⟨h3l, rfl⟩ := h3t rfl
      have e3 := h3f rfl
      clear h3f h3b h3t
      rw [if_pos rfl] at hR
      have HC := hrec rfl
      have hfl := hf l3 hp3
      obtain ⟨b4, l4, q4, e4⟩ : ∃ b4 l4 q4, f l3 = (b4, l4, q4) := ⟨_, _, _, rfl⟩
      rw [e4] at hR hfl
      simp only at hR hfl
      cases b4 with
      | false =>
        rw [if_pos rfl] at hR
        have HRR := Aside0.mk hR
        clear hR
        go_enter Try.func21, Try.ntmps21
        go_wp2_with (first | (go_at_call 28; refine (rd_words w0 _ g l v HR.out.hd hl0).mono ?_; rw [e1]; rintro e w1 ⟨v1, rfl, r1, h1, k1⟩; obtain ⟨Aw, cw, rfl⟩ := Kd.R_slice r1; have H1 := Aside0.mk (HR.out.keep h1 k1); have HWC := Aside0.mk (Kd.R_reads' r1).2.1; have HF1 := Aside0.mk (Kd.C_foot_own (g := g) (Kd.R_mono (Kd.R_bound r1) (ok' := fun k => k ≠ g) (fun k hk => by have := hk.2.1; have := HR.out.hd.lt; omega)) (fun _ hk => hk)); clear h1 k1 r1) | (go_at_call 22; with_reducible refine (rd_is w0 _ g l1 v 60 H1.out.hd).mono ?_; rw [e2]; rintro e w2 ⟨rfl, h2, k2⟩; have H2 := Aside0.mk (H1.out.keep h2 k2); have HF2 := Aside0.mk (Kd.C_foot_step HF1.out k2); have H3 := H2; have HF3 := HF2; clear h2 k2) | (go_at_call 29; refine (rd_angle w0 _ g l2 v out Aw cw _ H2.out hp2 HF2.out HWC.out HWN.out (by omega)).mono ?_; rintro e w5 ⟨v5, rfl, h5⟩; have H5 := Aside0.mk h5; clear h5) | (go_at_call 22; with_reducible refine (rd_is w0 _ g l2 v 58 H2.out.hd).mono ?_; rw [e3]; rintro e w3 ⟨rfl, h3, k3⟩; clear H3 HF3; have H3 := Aside0.mk (H2.out.keep h3 k3); have HF3 := Aside0.mk (Kd.C_foot_step HF2.out k3); have hc1 := (H3.out.below (below_drew1 (Below.refl _ _))).hd.out1.1; clear h3 k3) | (go_at_call 31; refine (rd_host w0 _ g _ v H3.out.hd).mono ?_; rw [e6]; rintro e w6 ⟨rfl, h6, k6⟩; have H6 := Aside0.mk (H3.out.keep h6 k6); have HF6 := Aside0.mk (Kd.C_foot_step HF3.out k6); have hc1 := (H6.out.below (below_drew1 (Below.refl _ _))).hd.out1.1; clear h6 k6))
        have HS := Aside0.mk (H3.out.below (below_drew1 (Below.refl _ _)))
        have HFW := Aside0.mk (Kd.C_foot_step HF3.out (KeepBut.of_below (below_drew1 (Below.refl _ _)) g none))
        refine start_ (n := 13) (S := fun w' => w'.cell? ⟨g, 1, none⟩ = some v) (ds := [9, 12]) #[false, false, false, false, false, false, false, false, false, false, false, false, false] (by kernel_rfl) rfl rfl (hc1) (fun hHeld => ?_)
        refine pure_ (i := 0) (N := some 23) (v := ?_) (a' := ?_) #[true, false, false, false, false, false, false, false, false, false, false, false, false] rfl rfl (by kernel_rfl) (fun _ _ _ h => h) (Or.inl ⟨by rfl, ?_⟩) ?_ ?_
        rotate_left
        · intro w'
          go_simp
          with_reducible rfl
        rotate_left
        · simp only [Act.put, List.setIfInBounds_toArray, List.set_cons_zero, List.set_cons_succ, i64_w, i32_w]
          rfl
        refine pure_ (i := 1) (N := some 24) (v := ?_) (a' := ?_) #[true, true, false, false, false, false, false, false, false, false, false, false, false] rfl rfl (by kernel_rfl) (fun _ _ _ h => h) (Or.inl ⟨by rfl, ?_⟩) ?_ ?_
        rotate_left
        · intro w'
          go_simp
          with_reducible rfl
        rotate_left
        · simp only [Act.put, List.setIfInBounds_toArray, List.set_cons_zero, List.set_cons_succ, i64_w, i32_w]
          rfl
        refine pure_ (i := 2) (N := some 25) (v := ?_) (a' := ?_) #[true, true, true, false, false, false, false, false, false, false, false, false, false] rfl rfl (by kernel_rfl) (fun _ _ _ h => h) (Or.inl ⟨by rfl, ?_⟩) ?_ ?_
        rotate_left
        · intro w'
          go_simp
          with_reducible rfl
        rotate_left
        · simp only [Act.put, List.setIfInBounds_toArray, List.set_cons_zero, List.set_cons_succ, i64_w, i32_w]
          rfl
        refine pure_ (i := 3) (N := some 26) (v := ?_) (a' := ?_) #[true, true, true, true, false, false, false, false, false, false, false, false, false] rfl rfl (by kernel_rfl) (fun _ _ _ h => h) (Or.inl ⟨by rfl, ?_⟩) ?_ ?_
        rotate_left
        · intro w'
          go_simp
          with_reducible rfl
        rotate_left
        · simp only [Act.put, List.setIfInBounds_toArray, List.set_cons_zero, List.set_cons_succ, i64_w, i32_w]
          rfl
        refine pure_ (i := 5) (N := some 28) (v := ?_) (a' := ?_) #[true, true, true, true, false, true, false, false, false, false, false, false, false] rfl rfl (by kernel_rfl) (fun _ _ _ h => h) (Or.inl ⟨by rfl, ?_⟩) ?_ ?_
        rotate_left
        · intro w'
          go_simp
          with_reducible rfl
        rotate_left
        · simp only [Act.put, List.setIfInBounds_toArray, List.set_cons_zero, List.set_cons_succ, i64_w, i32_w]
          rfl
        refine take_ (i := 4) (N := some 27) (v := ?_) (a' := ?_) #[true, true, true, true, true, true, false, false, false, false, false, false, false] rfl rfl (by kernel_rfl) (fun _ _ _ h => h) (Or.inl ⟨by rfl, ?_⟩) hHeld ?_ ?_
        rotate_left
        · intro w' s0
          go_simp
          with_reducible rfl
        rotate_left
        · simp only [Act.put, List.setIfInBounds_toArray, List.set_cons_zero, List.set_cons_succ, i64_w, i32_w]
          rfl
        refine one_ (i := 6) (N := some 29) #[true, true, true, true, true, true, true, false, false, false, false, false, false] rfl rfl (by kernel_rfl) (by decide) (fun K hK => ?_)
        refine goes_ Try.func30 (by kernel_rfl) rfl #[.slice Aw ws.length cw, .string (⟨#[32]⟩ : ByteArray)] (by rfl) rfl rfl (by simp only [List.map_toArray, List.map_cons, List.map_nil]; rfl) ?_
        with_reducible refine (sq_Join Aw cw ws (⟨#[32]⟩ : ByteArray) _ (HFW.out _ (KeepBut.refl _ _ _)) (HWC.out) (nOk.join HWN.out (⟨#[32]⟩ : ByteArray) (by decide)).1 (nOk.join HWN.out (⟨#[32]⟩ : ByteArray) (by decide)).2).mono ?_
        rintro e wj1 ⟨rfl, bj⟩
        refine ⟨_, rfl, ?_⟩
        replace HS := Aside0.mk (HS.out.below bj)
        replace HFW := Aside0.mk (Kd.C_foot_step HFW.out (KeepBut.of_below bj g none))
        have hd1 := HS.out.hd.out1.1
        clear bj
        refine hK.out _ _ (hd1) (fun hHeld => ?_)
        clear hK K
        refine norm_ (a' := ?_) ?_ ?_
        rotate_left
        · show Act.put _ (some 29) _ = _
          simp only [Act.put, List.setIfInBounds_toArray, List.set_cons_zero, List.set_cons_succ, i64_w, i32_w]
          rfl
        refine pure_ (i := 7) (N := some 30) (v := ?_) (a' := ?_) #[true, true, true, true, true, true, true, true, false, false, false, false, false] rfl rfl (by kernel_rfl) (fun _ _ _ h => h) (Or.inl ⟨by rfl, ?_⟩) ?_ ?_
        rotate_left
        · intro w'
          go_simp
          with_reducible rfl
        rotate_left
        · simp only [Act.put, List.setIfInBounds_toArray, List.set_cons_zero, List.set_cons_succ, i64_w, i32_w]
          rfl
        refine one_ (i := 8) (N := some 31) #[true, true, true, true, true, true, true, true, true, false, false, false, false] rfl rfl (by kernel_rfl) (by decide) (fun K hK => ?_)
        refine value_ (w1 := ?_) (v := ?_) (by rfl) rfl ?_ ?_
        rotate_left 2
        · go_simp
          constructor
          · rfl
          · rfl
        have hl_ := (HS.out.below (below_alloc (Below.refl _ _) (.cells ([.int .i64 1, .string (sq_join ws (⟨#[32]⟩ : ByteArray)), .string ⟨#[]⟩, .string ⟨#[]⟩] : List Value).toArray 27))).hd.out1.1
        refine hK.out _ _ (hl_) (fun hHeld => ?_)
        clear hK K
        refine norm_ (a' := ?_) ?_ ?_
        rotate_left
        · show Act.put _ (some 31) _ = _
          simp only [Act.put, List.setIfInBounds_toArray, List.set_cons_zero, List.set_cons_succ, i64_w, i32_w]
          rfl
        refine last_ (i := 9) (N := some 32) #[true, true, true, true, true, true, true, true, true, true, false, false, false] rfl rfl (by kernel_rfl) (by decide) (fun K hK => ?_)
        refine Kd.R_append_step k27 (w0 := _) w0.heap.size (by rfl) (.tmp 27) (.tmp 31) 23 27 (.agg #[(.int .i64 0), (.string ⟨#[]⟩), (.string ⟨#[]⟩), (.string ⟨#[]⟩)]) 56 rfl Try.underlying23 info27 rfl (by decide) (by decide) v out (⟨1, sq_join ws (⟨#[32]⟩ : ByteArray), ⟨#[]⟩, ⟨#[]⟩⟩ : S27) [.int .i64 1, .string (sq_join ws (⟨#[32]⟩ : ByteArray)), .string ⟨#[]⟩, .string ⟨#[]⟩] (fun k => k ≠ g) (fun _ => False) rfl rfl (k27_mkM _ _ _ (⟨1, sq_join ws (⟨#[32]⟩ : ByteArray), ⟨#[]⟩, ⟨#[]⟩⟩ : S27)) (fun _ hk => hk.elim) ?_ HS.out.row (Below.refl _ _) ?_ ?_ ?_
        · exact fun k hk e => absurd HS.out.hd.lt (by omega)
        · have := HS.out.hd.lt; have := HS.out.hd.ge; omega
        · omega
        intro v1 wa hra hba hga hoa
        have HA := Aside0.mk (HS.out.appended hra hga)
        have he1 := HA.out.1.out1.1
        have he2 := HA.out.1.out1.2
        replace HS := Aside0.mk HA.out.2
        obtain ⟨Aq, cq, rfl⟩ := Kd.R_slice hra
        clear hra hba hga hoa HA
        refine hK.out _ _ ?_
        clear hK K
        refine norm_ (a' := ?_) ?_ ?_
        rotate_left
        · show Act.put _ (some 32) _ = _
          simp only [Act.put, List.setIfInBounds_toArray, List.set_cons_zero, List.set_cons_succ, i64_w, i32_w]
          rfl
        refine pure_ (i := 10) (N := some 33) (v := ?_) (a' := ?_) #[true, true, true, true, true, true, true, true, true, true, true, false, false] rfl rfl (by kernel_rfl) (fun _ _ _ h => h) (Or.inl ⟨by rfl, ?_⟩) ?_ ?_
        rotate_left
        · intro w'
          go_simp
          with_reducible rfl
        rotate_left
        · simp only [Act.put, List.setIfInBounds_toArray, List.set_cons_zero, List.set_cons_succ, i64_w, i32_w]
          rfl
        refine pure_ (i := 11) (N := some 34) (v := ?_) (a' := ?_) #[true, true, true, true, true, true, true, true, true, true, true, true, false] rfl rfl (by kernel_rfl) (fun _ _ _ h => h) (Or.inl ⟨by rfl, ?_⟩) ?_ ?_
        rotate_left
        · intro w'
          go_simp
          with_reducible rfl
        rotate_left
        · simp only [Act.put, List.setIfInBounds_toArray, List.set_cons_zero, List.set_cons_succ, i64_w, i32_w]
          rfl
        refine last_ (i := 12) (N := none) #[true, true, true, true, true, true, true, true, true, true, true, true, true] rfl rfl (by kernel_rfl) (by decide) (fun K hK => ?_)
        refine skip_ (w1 := ?_) (by rfl) rfl ?_ ?_
        rotate_left
        · go_simp
          rfl
        refine hK.out _ _ ?_
        clear hK K
        refine done_ (by kernel_rfl) ?_
        have HS2 := Aside0.mk (show Rs w0 (wa.setCell ⟨g, 1, none⟩ (.slice Aq (out.length + 1) cq)) g l3 (.slice Aq (out.length + 1) cq) (out ++ [(⟨1, sq_join ws (⟨#[32]⟩ : ByteArray), ⟨#[]⟩, ⟨#[]⟩⟩ : S27)]) by have q := HS.out; simp only [List.length_append, List.length_singleton] at q; exact q)
        go_wp2_with (first | (go_at_call 12; refine (HC _ l3 _ _ HS2.out hp3 (by simp; omega)).mono ?_; rw [e4]; rintro e w7 ⟨v7, rfl, h7⟩; have H7 := Aside0.mk h7; clear h7) | (go_at_call 22; refine (rd_is w0 _ g l4 v7 59 H7.out.hd).mono ?_; rw [e5]; rintro e w8 ⟨rfl, h8, k8⟩; have H8 := Aside0.mk (H7.out.keep h8 k8); have hq1 := H8.out.hd.out1.1; clear h8 k8) | ((with_reducible refine gate_builtin (b := .append) (xs := #[.tmp 47, .tmp 49]) rfl ?_); at_builtin; refine Kd.R_append k27 (w0 := w8) w0.heap.size rfl (.tmp 47) (.tmp 49) 23 27 (.agg #[(.int .i64 0), (.string ⟨#[]⟩), (.string ⟨#[]⟩), (.string ⟨#[]⟩)]) 56 rfl Try.underlying23 info27 rfl (by decide) (by decide) v7 _ (⟨2, ⟨#[]⟩, ⟨#[]⟩, ⟨#[]⟩⟩ : S27) [.int .i64 2, .string ⟨#[]⟩, .string ⟨#[]⟩, .string ⟨#[]⟩] (fun k => k ≠ g) (fun _ => False) rfl (by first | (go_simp; done) | (go_simp; rfl)) (k27_mkM _ _ _ _) (fun _ hk => hk.elim) ?aF H8.out.row (Below.refl _ _) ?aS ?aL ?_; (case aF => exact fun k hk e => absurd H8.out.hd.lt (by omega)); (case aS => have := H8.out.hd.lt; have := H8.out.hd.ge; omega); (case aL => simp; omega); intro va wb ra ba ga oa; obtain ⟨Az, nz, cz, rfl⟩ : ∃ A n c, va = .slice A n c := (by obtain ⟨A, c, e⟩ := Kd.R_slice ra; exact ⟨A, _, c, e⟩); have HA := Aside0.mk (H8.out.appended ra ga); have he1 := HA.out.1.out1.1; have he2 := HA.out.1.out1.2; have H9 := Aside0.mk HA.out.2; clear ra ba ga oa HA hq1))
        go_ret
        rw [← HRR.out]
        exact ⟨_, rfl, by have q := H7.out; rw [List.append_assoc] at q; exact q⟩
      | true =>
        rw [if_neg (by decide)] at hR
        obtain ⟨b5, l5, e5⟩ : ∃ b5 l5, isP l4 59 = (b5, l5) := ⟨_, _, rfl⟩
        rw [e5] at hR
        simp only at hR
        cases b5 with
        | false =>
          rw [if_pos rfl] at hR
          have HRR := Aside0.mk hR
          clear hR
          go_enter Try.func21, Try.ntmps21
          go_wp2_with (first | (go_at_call 28; refine (rd_words w0 _ g l v HR.out.hd hl0).mono ?_; rw [e1]; rintro e w1 ⟨v1, rfl, r1, h1, k1⟩; obtain ⟨Aw, cw, rfl⟩ := Kd.R_slice r1; have H1 := Aside0.mk (HR.out.keep h1 k1); have HWC := Aside0.mk (Kd.R_reads' r1).2.1; have HF1 := Aside0.mk (Kd.C_foot_own (g := g) (Kd.R_mono (Kd.R_bound r1) (ok' := fun k => k ≠ g) (fun k hk => by have := hk.2.1; have := HR.out.hd.lt; omega)) (fun _ hk => hk)); clear h1 k1 r1) | (go_at_call 22; with_reducible refine (rd_is w0 _ g l1 v 60 H1.out.hd).mono ?_; rw [e2]; rintro e w2 ⟨rfl, h2, k2⟩; have H2 := Aside0.mk (H1.out.keep h2 k2); have HF2 := Aside0.mk (Kd.C_foot_step HF1.out k2); have H3 := H2; have HF3 := HF2; clear h2 k2) | (go_at_call 29; refine (rd_angle w0 _ g l2 v out Aw cw _ H2.out hp2 HF2.out HWC.out HWN.out (by omega)).mono ?_; rintro e w5 ⟨v5, rfl, h5⟩; have H5 := Aside0.mk h5; clear h5) | (go_at_call 22; with_reducible refine (rd_is w0 _ g l2 v 58 H2.out.hd).mono ?_; rw [e3]; rintro e w3 ⟨rfl, h3, k3⟩; clear H3 HF3; have H3 := Aside0.mk (H2.out.keep h3 k3); have HF3 := Aside0.mk (Kd.C_foot_step HF2.out k3); have hc1 := (H3.out.below (below_drew1 (Below.refl _ _))).hd.out1.1; clear h3 k3) | (go_at_call 31; refine (rd_host w0 _ g _ v H3.out.hd).mono ?_; rw [e6]; rintro e w6 ⟨rfl, h6, k6⟩; have H6 := Aside0.mk (H3.out.keep h6 k6); have HF6 := Aside0.mk (Kd.C_foot_step HF3.out k6); have hc1 := (H6.out.below (below_drew1 (Below.refl _ _))).hd.out1.1; clear h6 k6))
          have HS := Aside0.mk (H3.out.below (below_drew1 (Below.refl _ _)))
          have HFW := Aside0.mk (Kd.C_foot_step HF3.out (KeepBut.of_below (below_drew1 (Below.refl _ _)) g none))
          refine start_ (n := 13) (S := fun w' => w'.cell? ⟨g, 1, none⟩ = some v) (ds := [9, 12]) #[false, false, false, false, false, false, false, false, false, false, false, false, false] (by kernel_rfl) rfl rfl (hc1) (fun hHeld => ?_)
          refine pure_ (i := 0) (N := some 23) (v := ?_) (a' := ?_) #[true, false, false, false, false, false, false, false, false, false, false, false, false] rfl rfl (by kernel_rfl) (fun _ _ _ h => h) (Or.inl ⟨by rfl, ?_⟩) ?_ ?_
          rotate_left
          · intro w'
            go_simp
            with_reducible rfl
          rotate_left
          · simp only [Act.put, List.setIfInBounds_toArray, List.set_cons_zero, List.set_cons_succ, i64_w, i32_w]
            rfl
          refine pure_ (i := 1) (N := some 24) (v := ?_) (a' := ?_) #[true, true, false, false, false, false, false, false, false, false, false, false, false] rfl rfl (by kernel_rfl) (fun _ _ _ h => h) (Or.inl ⟨by rfl, ?_⟩) ?_ ?_
          rotate_left
          · intro w'
            go_simp
            with_reducible rfl
          rotate_left
          · simp only [Act.put, List.setIfInBounds_toArray, List.set_cons_zero, List.set_cons_succ, i64_w, i32_w]
            rfl
          refine pure_ (i := 2) (N := some 25) (v := ?_) (a' := ?_) #[true, true, true, false, false, false, false, false, false, false, false, false, false] rfl rfl (by kernel_rfl) (fun _ _ _ h => h) (Or.inl ⟨by rfl, ?_⟩) ?_ ?_
          rotate_left
          · intro w'
            go_simp
            with_reducible rfl
          rotate_left
          · simp only [Act.put, List.setIfInBounds_toArray, List.set_cons_zero, List.set_cons_succ, i64_w, i32_w]
            rfl
          refine pure_ (i := 3) (N := some 26) (v := ?_) (a' := ?_) #[true, true, true, true, false, false, false, false, false, false, false, false, false] rfl rfl (by kernel_rfl) (fun _ _ _ h => h) (Or.inl ⟨by rfl, ?_⟩) ?_ ?_
          rotate_left
          · intro w'
            go_simp
            with_reducible rfl
          rotate_left
          · simp only [Act.put, List.setIfInBounds_toArray, List.set_cons_zero, List.set_cons_succ, i64_w, i32_w]
            rfl
          refine pure_ (i := 5) (N := some 28) (v := ?_) (a' := ?_) #[true, true, true, true, false, true, false, false, false, false, false, false, false] rfl rfl (by kernel_rfl) (fun _ _ _ h => h) (Or.inl ⟨by rfl, ?_⟩) ?_ ?_
          rotate_left
          · intro w'
            go_simp
            with_reducible rfl
          rotate_left
          · simp only [Act.put, List.setIfInBounds_toArray, List.set_cons_zero, List.set_cons_succ, i64_w, i32_w]
            rfl
          refine take_ (i := 4) (N := some 27) (v := ?_) (a' := ?_) #[true, true, true, true, true, true, false, false, false, false, false, false, false] rfl rfl (by kernel_rfl) (fun _ _ _ h => h) (Or.inl ⟨by rfl, ?_⟩) hHeld ?_ ?_
          rotate_left
          · intro w' s0
            go_simp
            with_reducible rfl
          rotate_left
          · simp only [Act.put, List.setIfInBounds_toArray, List.set_cons_zero, List.set_cons_succ, i64_w, i32_w]
            rfl
          refine one_ (i := 6) (N := some 29) #[true, true, true, true, true, true, true, false, false, false, false, false, false] rfl rfl (by kernel_rfl) (by decide) (fun K hK => ?_)
          refine goes_ Try.func30 (by kernel_rfl) rfl #[.slice Aw ws.length cw, .string (⟨#[32]⟩ : ByteArray)] (by rfl) rfl rfl (by simp only [List.map_toArray, List.map_cons, List.map_nil]; rfl) ?_
          with_reducible refine (sq_Join Aw cw ws (⟨#[32]⟩ : ByteArray) _ (HFW.out _ (KeepBut.refl _ _ _)) (HWC.out) (nOk.join HWN.out (⟨#[32]⟩ : ByteArray) (by decide)).1 (nOk.join HWN.out (⟨#[32]⟩ : ByteArray) (by decide)).2).mono ?_
          rintro e wj1 ⟨rfl, bj⟩
          refine ⟨_, rfl, ?_⟩
          replace HS := Aside0.mk (HS.out.below bj)
          replace HFW := Aside0.mk (Kd.C_foot_step HFW.out (KeepBut.of_below bj g none))
          have hd1 := HS.out.hd.out1.1
          clear bj
          refine hK.out _ _ (hd1) (fun hHeld => ?_)
          clear hK K
          refine norm_ (a' := ?_) ?_ ?_
          rotate_left
          · show Act.put _ (some 29) _ = _
            simp only [Act.put, List.setIfInBounds_toArray, List.set_cons_zero, List.set_cons_succ, i64_w, i32_w]
            rfl
          refine pure_ (i := 7) (N := some 30) (v := ?_) (a' := ?_) #[true, true, true, true, true, true, true, true, false, false, false, false, false] rfl rfl (by kernel_rfl) (fun _ _ _ h => h) (Or.inl ⟨by rfl, ?_⟩) ?_ ?_
          rotate_left
          · intro w'
            go_simp
            with_reducible rfl
          rotate_left
          · simp only [Act.put, List.setIfInBounds_toArray, List.set_cons_zero, List.set_cons_succ, i64_w, i32_w]
            rfl
          refine one_ (i := 8) (N := some 31) #[true, true, true, true, true, true, true, true, true, false, false, false, false] rfl rfl (by kernel_rfl) (by decide) (fun K hK => ?_)
          refine value_ (w1 := ?_) (v := ?_) (by rfl) rfl ?_ ?_
          rotate_left 2
          · go_simp
            constructor
            · rfl
            · rfl
          have hl_ := (HS.out.below (below_alloc (Below.refl _ _) (.cells ([.int .i64 1, .string (sq_join ws (⟨#[32]⟩ : ByteArray)), .string ⟨#[]⟩, .string ⟨#[]⟩] : List Value).toArray 27))).hd.out1.1
          refine hK.out _ _ (hl_) (fun hHeld => ?_)
          clear hK K
          refine norm_ (a' := ?_) ?_ ?_
          rotate_left
          · show Act.put _ (some 31) _ = _
            simp only [Act.put, List.setIfInBounds_toArray, List.set_cons_zero, List.set_cons_succ, i64_w, i32_w]
            rfl
          refine last_ (i := 9) (N := some 32) #[true, true, true, true, true, true, true, true, true, true, false, false, false] rfl rfl (by kernel_rfl) (by decide) (fun K hK => ?_)
          refine Kd.R_append_step k27 (w0 := _) w0.heap.size (by rfl) (.tmp 27) (.tmp 31) 23 27 (.agg #[(.int .i64 0), (.string ⟨#[]⟩), (.string ⟨#[]⟩), (.string ⟨#[]⟩)]) 56 rfl Try.underlying23 info27 rfl (by decide) (by decide) v out (⟨1, sq_join ws (⟨#[32]⟩ : ByteArray), ⟨#[]⟩, ⟨#[]⟩⟩ : S27) [.int .i64 1, .string (sq_join ws (⟨#[32]⟩ : ByteArray)), .string ⟨#[]⟩, .string ⟨#[]⟩] (fun k => k ≠ g) (fun _ => False) rfl rfl (k27_mkM _ _ _ (⟨1, sq_join ws (⟨#[32]⟩ : ByteArray), ⟨#[]⟩, ⟨#[]⟩⟩ : S27)) (fun _ hk => hk.elim) ?_ HS.out.row (Below.refl _ _) ?_ ?_ ?_
          · exact fun k hk e => absurd HS.out.hd.lt (by omega)
          · have := HS.out.hd.lt; have := HS.out.hd.ge; omega
          · omega
          intro v1 wa hra hba hga hoa
          have HA := Aside0.mk (HS.out.appended hra hga)
          have he1 := HA.out.1.out1.1
          have he2 := HA.out.1.out1.2
          replace HS := Aside0.mk HA.out.2
          obtain ⟨Aq, cq, rfl⟩ := Kd.R_slice hra
          clear hra hba hga hoa HA
          refine hK.out _ _ ?_
          clear hK K
          refine norm_ (a' := ?_) ?_ ?_
          rotate_left
          · show Act.put _ (some 32) _ = _
            simp only [Act.put, List.setIfInBounds_toArray, List.set_cons_zero, List.set_cons_succ, i64_w, i32_w]
            rfl
          refine pure_ (i := 10) (N := some 33) (v := ?_) (a' := ?_) #[true, true, true, true, true, true, true, true, true, true, true, false, false] rfl rfl (by kernel_rfl) (fun _ _ _ h => h) (Or.inl ⟨by rfl, ?_⟩) ?_ ?_
          rotate_left
          · intro w'
            go_simp
            with_reducible rfl
          rotate_left
          · simp only [Act.put, List.setIfInBounds_toArray, List.set_cons_zero, List.set_cons_succ, i64_w, i32_w]
            rfl
          refine pure_ (i := 11) (N := some 34) (v := ?_) (a' := ?_) #[true, true, true, true, true, true, true, true, true, true, true, true, false] rfl rfl (by kernel_rfl) (fun _ _ _ h => h) (Or.inl ⟨by rfl, ?_⟩) ?_ ?_
          rotate_left
          · intro w'
            go_simp
            with_reducible rfl
          rotate_left
          · simp only [Act.put, List.setIfInBounds_toArray, List.set_cons_zero, List.set_cons_succ, i64_w, i32_w]
            rfl
          refine last_ (i := 12) (N := none) #[true, true, true, true, true, true, true, true, true, true, true, true, true] rfl rfl (by kernel_rfl) (by decide) (fun K hK => ?_)
          refine skip_ (w1 := ?_) (by rfl) rfl ?_ ?_
          rotate_left
          · go_simp
            rfl
          refine hK.out _ _ ?_
          clear hK K
          refine done_ (by kernel_rfl) ?_
          have HS2 := Aside0.mk (show Rs w0 (wa.setCell ⟨g, 1, none⟩ (.slice Aq (out.length + 1) cq)) g l3 (.slice Aq (out.length + 1) cq) (out ++ [(⟨1, sq_join ws (⟨#[32]⟩ : ByteArray), ⟨#[]⟩, ⟨#[]⟩⟩ : S27)]) by have q := HS.out; simp only [List.length_append, List.length_singleton] at q; exact q)
          go_wp2_with (first | (go_at_call 12; refine (HC _ l3 _ _ HS2.out hp3 (by simp; omega)).mono ?_; rw [e4]; rintro e w7 ⟨v7, rfl, h7⟩; have H7 := Aside0.mk h7; clear h7) | (go_at_call 22; refine (rd_is w0 _ g l4 v7 59 H7.out.hd).mono ?_; rw [e5]; rintro e w8 ⟨rfl, h8, k8⟩; have H8 := Aside0.mk (H7.out.keep h8 k8); have hq1 := H8.out.hd.out1.1; clear h8 k8) | ((with_reducible refine gate_builtin (b := .append) (xs := #[.tmp 47, .tmp 49]) rfl ?_); at_builtin; refine Kd.R_append k27 (w0 := w8) w0.heap.size rfl (.tmp 47) (.tmp 49) 23 27 (.agg #[(.int .i64 0), (.string ⟨#[]⟩), (.string ⟨#[]⟩), (.string ⟨#[]⟩)]) 56 rfl Try.underlying23 info27 rfl (by decide) (by decide) v7 _ (⟨2, ⟨#[]⟩, ⟨#[]⟩, ⟨#[]⟩⟩ : S27) [.int .i64 2, .string ⟨#[]⟩, .string ⟨#[]⟩, .string ⟨#[]⟩] (fun k => k ≠ g) (fun _ => False) rfl (by first | (go_simp; done) | (go_simp; rfl)) (k27_mkM _ _ _ _) (fun _ hk => hk.elim) ?aF H8.out.row (Below.refl _ _) ?aS ?aL ?_; (case aF => exact fun k hk e => absurd H8.out.hd.lt (by omega)); (case aS => have := H8.out.hd.lt; have := H8.out.hd.ge; omega); (case aL => simp; omega); intro va wb ra ba ga oa; obtain ⟨Az, nz, cz, rfl⟩ : ∃ A n c, va = .slice A n c := (by obtain ⟨A, c, e⟩ := Kd.R_slice ra; exact ⟨A, _, c, e⟩); have HA := Aside0.mk (H8.out.appended ra ga); have he1 := HA.out.1.out1.1; have he2 := HA.out.1.out1.2; have H9 := Aside0.mk HA.out.2; clear ra ba ga oa HA hq1))
          go_ret
          rw [← HRR.out]
          exact ⟨_, rfl, by have q := H8.out; rw [List.append_assoc] at q; exact q⟩
        | true =>
          rw [if_neg (by decide)] at hR
          have HRR := Aside0.mk hR
          clear hR
          have hl59 := isP_true e5
          have hql : q4.length + l4.length ≤ l3.length := by omega
          go_enter Try.func21, Try.ntmps21
          go_wp2_with (first | (go_at_call 28; refine (rd_words w0 _ g l v HR.out.hd hl0).mono ?_; rw [e1]; rintro e w1 ⟨v1, rfl, r1, h1, k1⟩; obtain ⟨Aw, cw, rfl⟩ := Kd.R_slice r1; have H1 := Aside0.mk (HR.out.keep h1 k1); have HWC := Aside0.mk (Kd.R_reads' r1).2.1; have HF1 := Aside0.mk (Kd.C_foot_own (g := g) (Kd.R_mono (Kd.R_bound r1) (ok' := fun k => k ≠ g) (fun k hk => by have := hk.2.1; have := HR.out.hd.lt; omega)) (fun _ hk => hk)); clear h1 k1 r1) | (go_at_call 22; with_reducible refine (rd_is w0 _ g l1 v 60 H1.out.hd).mono ?_; rw [e2]; rintro e w2 ⟨rfl, h2, k2⟩; have H2 := Aside0.mk (H1.out.keep h2 k2); have HF2 := Aside0.mk (Kd.C_foot_step HF1.out k2); have H3 := H2; have HF3 := HF2; clear h2 k2) | (go_at_call 29; refine (rd_angle w0 _ g l2 v out Aw cw _ H2.out hp2 HF2.out HWC.out HWN.out (by omega)).mono ?_; rintro e w5 ⟨v5, rfl, h5⟩; have H5 := Aside0.mk h5; clear h5) | (go_at_call 22; with_reducible refine (rd_is w0 _ g l2 v 58 H2.out.hd).mono ?_; rw [e3]; rintro e w3 ⟨rfl, h3, k3⟩; clear H3 HF3; have H3 := Aside0.mk (H2.out.keep h3 k3); have HF3 := Aside0.mk (Kd.C_foot_step HF2.out k3); have hc1 := (H3.out.below (below_drew1 (Below.refl _ _))).hd.out1.1; clear h3 k3) | (go_at_call 31; refine (rd_host w0 _ g _ v H3.out.hd).mono ?_; rw [e6]; rintro e w6 ⟨rfl, h6, k6⟩; have H6 := Aside0.mk (H3.out.keep h6 k6); have HF6 := Aside0.mk (Kd.C_foot_step HF3.out k6); have hc1 := (H6.out.below (below_drew1 (Below.refl _ _))).hd.out1.1; clear h6 k6))
          have HS := Aside0.mk (H3.out.below (below_drew1 (Below.refl _ _)))
          have HFW := Aside0.mk (Kd.C_foot_step HF3.out (KeepBut.of_below (below_drew1 (Below.refl _ _)) g none))
          refine start_ (n := 13) (S := fun w' => w'.cell? ⟨g, 1, none⟩ = some v) (ds := [9, 12]) #[false, false, false, false, false, false, false, false, false, false, false, false, false] (by kernel_rfl) rfl rfl (hc1) (fun hHeld => ?_)
          refine pure_ (i := 0) (N := some 23) (v := ?_) (a' := ?_) #[true, false, false, false, false, false, false, false, false, false, false, false, false] rfl rfl (by kernel_rfl) (fun _ _ _ h => h) (Or.inl ⟨by rfl, ?_⟩) ?_ ?_
          rotate_left
          · intro w'
            go_simp
            with_reducible rfl
          rotate_left
          · simp only [Act.put, List.setIfInBounds_toArray, List.set_cons_zero, List.set_cons_succ, i64_w, i32_w]
            rfl
          refine pure_ (i := 1) (N := some 24) (v := ?_) (a' := ?_) #[true, true, false, false, false, false, false, false, false, false, false, false, false] rfl rfl (by kernel_rfl) (fun _ _ _ h => h) (Or.inl ⟨by rfl, ?_⟩) ?_ ?_
          rotate_left
          · intro w'
            go_simp
            with_reducible rfl
          rotate_left
          · simp only [Act.put, List.setIfInBounds_toArray, List.set_cons_zero, List.set_cons_succ, i64_w, i32_w]
            rfl
          refine pure_ (i := 2) (N := some 25) (v := ?_) (a' := ?_) #[true, true, true, false, false, false, false, false, false, false, false, false, false] rfl rfl (by kernel_rfl) (fun _ _ _ h => h) (Or.inl ⟨by rfl, ?_⟩) ?_ ?_
          rotate_left
          · intro w'
            go_simp
            with_reducible rfl
          rotate_left
          · simp only [Act.put, List.setIfInBounds_toArray, List.set_cons_zero, List.set_cons_succ, i64_w, i32_w]
            rfl
          refine pure_ (i := 3) (N := some 26) (v := ?_) (a' := ?_) #[true, true, true, true, false, false, false, false, false, false, false, false, false] rfl rfl (by kernel_rfl) (fun _ _ _ h => h) (Or.inl ⟨by rfl, ?_⟩) ?_ ?_
          rotate_left
          · intro w'
            go_simp
            with_reducible rfl
          rotate_left
          · simp only [Act.put, List.setIfInBounds_toArray, List.set_cons_zero, List.set_cons_succ, i64_w, i32_w]
            rfl
          refine pure_ (i := 5) (N := some 28) (v := ?_) (a' := ?_) #[true, true, true, true, false, true, false, false, false, false, false, false, false] rfl rfl (by kernel_rfl) (fun _ _ _ h => h) (Or.inl ⟨by rfl, ?_⟩) ?_ ?_
          rotate_left
          · intro w'
            go_simp
            with_reducible rfl
          rotate_left
          · simp only [Act.put, List.setIfInBounds_toArray, List.set_cons_zero, List.set_cons_succ, i64_w, i32_w]
            rfl
          refine take_ (i := 4) (N := some 27) (v := ?_) (a' := ?_) #[true, true, true, true, true, true, false, false, false, false, false, false, false] rfl rfl (by kernel_rfl) (fun _ _ _ h => h) (Or.inl ⟨by rfl, ?_⟩) hHeld ?_ ?_
          rotate_left
          · intro w' s0
            go_simp
            with_reducible rfl
          rotate_left
          · simp only [Act.put, List.setIfInBounds_toArray, List.set_cons_zero, List.set_cons_succ, i64_w, i32_w]
            rfl
          refine one_ (i := 6) (N := some 29) #[true, true, true, true, true, true, true, false, false, false, false, false, false] rfl rfl (by kernel_rfl) (by decide) (fun K hK => ?_)
          refine goes_ Try.func30 (by kernel_rfl) rfl #[.slice Aw ws.length cw, .string (⟨#[32]⟩ : ByteArray)] (by rfl) rfl rfl (by simp only [List.map_toArray, List.map_cons, List.map_nil]; rfl) ?_
          with_reducible refine (sq_Join Aw cw ws (⟨#[32]⟩ : ByteArray) _ (HFW.out _ (KeepBut.refl _ _ _)) (HWC.out) (nOk.join HWN.out (⟨#[32]⟩ : ByteArray) (by decide)).1 (nOk.join HWN.out (⟨#[32]⟩ : ByteArray) (by decide)).2).mono ?_
          rintro e wj1 ⟨rfl, bj⟩
          refine ⟨_, rfl, ?_⟩
          replace HS := Aside0.mk (HS.out.below bj)
          replace HFW := Aside0.mk (Kd.C_foot_step HFW.out (KeepBut.of_below bj g none))
          have hd1 := HS.out.hd.out1.1
          clear bj
          refine hK.out _ _ (hd1) (fun hHeld => ?_)
          clear hK K
          refine norm_ (a' := ?_) ?_ ?_
          rotate_left
          · show Act.put _ (some 29) _ = _
            simp only [Act.put, List.setIfInBounds_toArray, List.set_cons_zero, List.set_cons_succ, i64_w, i32_w]
            rfl
          refine pure_ (i := 7) (N := some 30) (v := ?_) (a' := ?_) #[true, true, true, true, true, true, true, true, false, false, false, false, false] rfl rfl (by kernel_rfl) (fun _ _ _ h => h) (Or.inl ⟨by rfl, ?_⟩) ?_ ?_
          rotate_left
          · intro w'
            go_simp
            with_reducible rfl
          rotate_left
          · simp only [Act.put, List.setIfInBounds_toArray, List.set_cons_zero, List.set_cons_succ, i64_w, i32_w]
            rfl
          refine one_ (i := 8) (N := some 31) #[true, true, true, true, true, true, true, true, true, false, false, false, false] rfl rfl (by kernel_rfl) (by decide) (fun K hK => ?_)
          refine value_ (w1 := ?_) (v := ?_) (by rfl) rfl ?_ ?_
          rotate_left 2
          · go_simp
            constructor
            · rfl
            · rfl
          have hl_ := (HS.out.below (below_alloc (Below.refl _ _) (.cells ([.int .i64 1, .string (sq_join ws (⟨#[32]⟩ : ByteArray)), .string ⟨#[]⟩, .string ⟨#[]⟩] : List Value).toArray 27))).hd.out1.1
          refine hK.out _ _ (hl_) (fun hHeld => ?_)
          clear hK K
          refine norm_ (a' := ?_) ?_ ?_
          rotate_left
          · show Act.put _ (some 31) _ = _
            simp only [Act.put, List.setIfInBounds_toArray, List.set_cons_zero, List.set_cons_succ, i64_w, i32_w]
            rfl
          refine last_ (i := 9) (N := some 32) #[true, true, true, true, true, true, true, true, true, true, false, false, false] rfl rfl (by kernel_rfl) (by decide) (fun K hK => ?_)
          refine Kd.R_append_step k27 (w0 := _) w0.heap.size (by rfl) (.tmp 27) (.tmp 31) 23 27 (.agg #[(.int .i64 0), (.string ⟨#[]⟩), (.string ⟨#[]⟩), (.string ⟨#[]⟩)]) 56 rfl Try.underlying23 info27 rfl (by decide) (by decide) v out (⟨1, sq_join ws (⟨#[32]⟩ : ByteArray), ⟨#[]⟩, ⟨#[]⟩⟩ : S27) [.int .i64 1, .string (sq_join ws (⟨#[32]⟩ : ByteArray)), .string ⟨#[]⟩, .string ⟨#[]⟩] (fun k => k ≠ g) (fun _ => False) rfl rfl (k27_mkM _ _ _ (⟨1, sq_join ws (⟨#[32]⟩ : ByteArray), ⟨#[]⟩, ⟨#[]⟩⟩ : S27)) (fun _ hk => hk.elim) ?_ HS.out.row (Below.refl _ _) ?_ ?_ ?_
          · exact fun k hk e => absurd HS.out.hd.lt (by omega)
          · have := HS.out.hd.lt; have := HS.out.hd.ge; omega
          · omega
          intro v1 wa hra hba hga hoa
          have HA := Aside0.mk (HS.out.appended hra hga)
          have he1 := HA.out.1.out1.1
          have he2 := HA.out.1.out1.2
          replace HS := Aside0.mk HA.out.2
          obtain ⟨Aq, cq, rfl⟩ := Kd.R_slice hra
          clear hra hba hga hoa HA
          refine hK.out _ _ ?_
          clear hK K
          refine norm_ (a' := ?_) ?_ ?_
          rotate_left
          · show Act.put _ (some 32) _ = _
            simp only [Act.put, List.setIfInBounds_toArray, List.set_cons_zero, List.set_cons_succ, i64_w, i32_w]
            rfl
          refine pure_ (i := 10) (N := some 33) (v := ?_) (a' := ?_) #[true, true, true, true, true, true, true, true, true, true, true, false, false] rfl rfl (by kernel_rfl) (fun _ _ _ h => h) (Or.inl ⟨by rfl, ?_⟩) ?_ ?_
          rotate_left
          · intro w'
            go_simp
            with_reducible rfl
          rotate_left
          · simp only [Act.put, List.setIfInBounds_toArray, List.set_cons_zero, List.set_cons_succ, i64_w, i32_w]
            rfl
          refine pure_ (i := 11) (N := some 34) (v := ?_) (a' := ?_) #[true, true, true, true, true, true, true, true, true, true, true, true, false] rfl rfl (by kernel_rfl) (fun _ _ _ h => h) (Or.inl ⟨by rfl, ?_⟩) ?_ ?_
          rotate_left
          · intro w'
            go_simp
            with_reducible rfl
          rotate_left
          · simp only [Act.put, List.setIfInBounds_toArray, List.set_cons_zero, List.set_cons_succ, i64_w, i32_w]
            rfl
          refine last_ (i := 12) (N := none) #[true, true, true, true, true, true, true, true, true, true, true, true, true] rfl rfl (by kernel_rfl) (by decide) (fun K hK => ?_)
          refine skip_ (w1 := ?_) (by rfl) rfl ?_ ?_
          rotate_left
          · go_simp
            rfl
          refine hK.out _ _ ?_
          clear hK K
          refine done_ (by kernel_rfl) ?_
          have HS2 := Aside0.mk (show Rs w0 (wa.setCell ⟨g, 1, none⟩ (.slice Aq (out.length + 1) cq)) g l3 (.slice Aq (out.length + 1) cq) (out ++ [(⟨1, sq_join ws (⟨#[32]⟩ : ByteArray), ⟨#[]⟩, ⟨#[]⟩⟩ : S27)]) by have q := HS.out; simp only [List.length_append, List.length_singleton] at q; exact q)
          go_wp2_with (first | (go_at_call 12; refine (HC _ l3 _ _ HS2.out hp3 (by simp; omega)).mono ?_; rw [e4]; rintro e w7 ⟨v7, rfl, h7⟩; have H7 := Aside0.mk h7; clear h7) | (go_at_call 22; refine (rd_is w0 _ g l4 v7 59 H7.out.hd).mono ?_; rw [e5]; rintro e w8 ⟨rfl, h8, k8⟩; have H8 := Aside0.mk (H7.out.keep h8 k8); have hq1 := H8.out.hd.out1.1; clear h8 k8) | ((with_reducible refine gate_builtin (b := .append) (xs := #[.tmp 47, .tmp 49]) rfl ?_); at_builtin; refine Kd.R_append k27 (w0 := w8) w0.heap.size rfl (.tmp 47) (.tmp 49) 23 27 (.agg #[(.int .i64 0), (.string ⟨#[]⟩), (.string ⟨#[]⟩), (.string ⟨#[]⟩)]) 56 rfl Try.underlying23 info27 rfl (by decide) (by decide) v7 _ (⟨2, ⟨#[]⟩, ⟨#[]⟩, ⟨#[]⟩⟩ : S27) [.int .i64 2, .string ⟨#[]⟩, .string ⟨#[]⟩, .string ⟨#[]⟩] (fun k => k ≠ g) (fun _ => False) rfl (by first | (go_simp; done) | (go_simp; rfl)) (k27_mkM _ _ _ _) (fun _ hk => hk.elim) ?aF H8.out.row (Below.refl _ _) ?aS ?aL ?_; (case aF => exact fun k hk e => absurd H8.out.hd.lt (by omega)); (case aS => have := H8.out.hd.lt; have := H8.out.hd.ge; omega); (case aL => simp; omega); intro va wb ra ba ga oa; obtain ⟨Az, nz, cz, rfl⟩ : ∃ A n c, va = .slice A n c := (by obtain ⟨A, c, e⟩ := Kd.R_slice ra; exact ⟨A, _, c, e⟩); have HA := Aside0.mk (H8.out.appended ra ga); have he1 := HA.out.1.out1.1; have he2 := HA.out.1.out1.2; have H9 := Aside0.mk HA.out.2; clear ra ba ga oa HA hq1))
          go_ret
          rw [← HRR.out]
          exact ⟨_, rfl, by have q := H9.out; simp only [List.append_assoc] at q ⊢; exact q⟩
    | false =>
      rw [if_neg (by decide)] at hR
      cases ws with
      | nil =>
        rw [if_pos rfl] at hR
        have HRR := Aside0.mk hR
        clear hR
        cases b with
        | false =>
          have e3 := h3f rfl
          go_enter Try.func21, Try.ntmps21
          go_wp2_with (first | (go_at_call 28; refine (rd_words w0 _ g l v HR.out.hd hl0).mono ?_; rw [e1]; rintro e w1 ⟨v1, rfl, r1, h1, k1⟩; obtain ⟨Aw, cw, rfl⟩ := Kd.R_slice r1; have H1 := Aside0.mk (HR.out.keep h1 k1); have HWC := Aside0.mk (Kd.R_reads' r1).2.1; have HF1 := Aside0.mk (Kd.C_foot_own (g := g) (Kd.R_mono (Kd.R_bound r1) (ok' := fun k => k ≠ g) (fun k hk => by have := hk.2.1; have := HR.out.hd.lt; omega)) (fun _ hk => hk)); clear h1 k1 r1) | (go_at_call 22; with_reducible refine (rd_is w0 _ g l1 v 60 H1.out.hd).mono ?_; rw [e2]; rintro e w2 ⟨rfl, h2, k2⟩; have H2 := Aside0.mk (H1.out.keep h2 k2); have HF2 := Aside0.mk (Kd.C_foot_step HF1.out k2); have H3 := H2; have HF3 := HF2; clear h2 k2) | (go_at_call 29; refine (rd_angle w0 _ g l2 v out Aw cw _ H2.out hp2 HF2.out HWC.out HWN.out (by omega)).mono ?_; rintro e w5 ⟨v5, rfl, h5⟩; have H5 := Aside0.mk h5; clear h5) | (go_at_call 22; with_reducible refine (rd_is w0 _ g l2 v 58 H2.out.hd).mono ?_; rw [e3]; rintro e w3 ⟨rfl, h3, k3⟩; clear H3 HF3; have H3 := Aside0.mk (H2.out.keep h3 k3); have HF3 := Aside0.mk (Kd.C_foot_step HF2.out k3); have hc1 := (H3.out.below (below_drew1 (Below.refl _ _))).hd.out1.1; clear h3 k3) | (go_at_call 31; refine (rd_host w0 _ g _ v H3.out.hd).mono ?_; rw [e6]; rintro e w6 ⟨rfl, h6, k6⟩; have H6 := Aside0.mk (H3.out.keep h6 k6); have HF6 := Aside0.mk (Kd.C_foot_step HF3.out k6); have hc1 := (H6.out.below (below_drew1 (Below.refl _ _))).hd.out1.1; clear h6 k6))
          go_ret
          rw [← HRR.out]
          exact ⟨_, rfl, by simpa using H3.out⟩
        | true =>
          obtain rfl := h3b rfl
          go_enter Try.func21, Try.ntmps21
          go_wp2_with (first | (go_at_call 28; refine (rd_words w0 _ g l v HR.out.hd hl0).mono ?_; rw [e1]; rintro e w1 ⟨v1, rfl, r1, h1, k1⟩; obtain ⟨Aw, cw, rfl⟩ := Kd.R_slice r1; have H1 := Aside0.mk (HR.out.keep h1 k1); have HWC := Aside0.mk (Kd.R_reads' r1).2.1; have HF1 := Aside0.mk (Kd.C_foot_own (g := g) (Kd.R_mono (Kd.R_bound r1) (ok' := fun k => k ≠ g) (fun k hk => by have := hk.2.1; have := HR.out.hd.lt; omega)) (fun _ hk => hk)); clear h1 k1 r1) | (go_at_call 22; with_reducible refine (rd_is w0 _ g l1 v 60 H1.out.hd).mono ?_; rw [e2]; rintro e w2 ⟨rfl, h2, k2⟩; have H2 := Aside0.mk (H1.out.keep h2 k2); have HF2 := Aside0.mk (Kd.C_foot_step HF1.out k2); have H3 := H2; have HF3 := HF2; clear h2 k2) | (go_at_call 29; refine (rd_angle w0 _ g l2 v out Aw cw _ H2.out hp2 HF2.out HWC.out HWN.out (by omega)).mono ?_; rintro e w5 ⟨v5, rfl, h5⟩; have H5 := Aside0.mk h5; clear h5) | (go_at_call 22; with_reducible refine (rd_is w0 _ g l2 v 58 H2.out.hd).mono ?_; rw [e3]; rintro e w3 ⟨rfl, h3, k3⟩; clear H3 HF3; have H3 := Aside0.mk (H2.out.keep h3 k3); have HF3 := Aside0.mk (Kd.C_foot_step HF2.out k3); have hc1 := (H3.out.below (below_drew1 (Below.refl _ _))).hd.out1.1; clear h3 k3) | (go_at_call 31; refine (rd_host w0 _ g _ v H3.out.hd).mono ?_; rw [e6]; rintro e w6 ⟨rfl, h6, k6⟩; have H6 := Aside0.mk (H3.out.keep h6 k6); have HF6 := Aside0.mk (Kd.C_foot_step HF3.out k6); have hc1 := (H6.out.below (below_drew1 (Below.refl _ _))).hd.out1.1; clear h6 k6))
          go_ret
          rw [← HRR.out]
          exact ⟨_, rfl, by simpa using H3.out⟩
      | cons wa_ wt_ =>
        rw [if_neg (by simp)] at hR
        have hwl : (((wa_ :: wt_).length : Int) == 0) = false := by rw [beq_eq_false_iff_ne]; simp; omega
        generalize hws : wa_ :: wt_ = ws at e1 HWN hR hwl hsum
        obtain ⟨hb, ok, l6, e6⟩ : ∃ hb ok l6, hostP l3 = (hb, ok, l6) := ⟨_, _, _, rfl⟩
        rw [e6] at hR
        simp only at hR
        have HRR := Aside0.mk hR
        clear hR
        cases b with
        | false =>
          have e3 := h3f rfl
          go_enter Try.func21, Try.ntmps21
          go_wp2_with (first | (go_at_call 28; refine (rd_words w0 _ g l v HR.out.hd hl0).mono ?_; rw [e1]; rintro e w1 ⟨v1, rfl, r1, h1, k1⟩; obtain ⟨Aw, cw, rfl⟩ := Kd.R_slice r1; have H1 := Aside0.mk (HR.out.keep h1 k1); have HWC := Aside0.mk (Kd.R_reads' r1).2.1; have HF1 := Aside0.mk (Kd.C_foot_own (g := g) (Kd.R_mono (Kd.R_bound r1) (ok' := fun k => k ≠ g) (fun k hk => by have := hk.2.1; have := HR.out.hd.lt; omega)) (fun _ hk => hk)); clear h1 k1 r1) | (go_at_call 22; with_reducible refine (rd_is w0 _ g l1 v 60 H1.out.hd).mono ?_; rw [e2]; rintro e w2 ⟨rfl, h2, k2⟩; have H2 := Aside0.mk (H1.out.keep h2 k2); have HF2 := Aside0.mk (Kd.C_foot_step HF1.out k2); have H3 := H2; have HF3 := HF2; clear h2 k2) | (go_at_call 29; refine (rd_angle w0 _ g l2 v out Aw cw _ H2.out hp2 HF2.out HWC.out HWN.out (by omega)).mono ?_; rintro e w5 ⟨v5, rfl, h5⟩; have H5 := Aside0.mk h5; clear h5) | (go_at_call 22; with_reducible refine (rd_is w0 _ g l2 v 58 H2.out.hd).mono ?_; rw [e3]; rintro e w3 ⟨rfl, h3, k3⟩; clear H3 HF3; have H3 := Aside0.mk (H2.out.keep h3 k3); have HF3 := Aside0.mk (Kd.C_foot_step HF2.out k3); have hc1 := (H3.out.below (below_drew1 (Below.refl _ _))).hd.out1.1; clear h3 k3) | (go_at_call 31; refine (rd_host w0 _ g _ v H3.out.hd).mono ?_; rw [e6]; rintro e w6 ⟨rfl, h6, k6⟩; have H6 := Aside0.mk (H3.out.keep h6 k6); have HF6 := Aside0.mk (Kd.C_foot_step HF3.out k6); have hc1 := (H6.out.below (below_drew1 (Below.refl _ _))).hd.out1.1; clear h6 k6))
          have HS := Aside0.mk (H6.out.below (below_drew1 (Below.refl _ _)))
          have HFW := Aside0.mk (Kd.C_foot_step HF6.out (KeepBut.of_below (below_drew1 (Below.refl _ _)) g none))
          refine start_ (n := 14) (S := fun w' => w'.cell? ⟨g, 1, none⟩ = some v) (ds := [10, 13]) #[false, false, false, false, false, false, false, false, false, false, false, false, false, false] (by kernel_rfl) rfl rfl (hc1) (fun hHeld => ?_)
          refine pure_ (i := 0) (N := some 62) (v := ?_) (a' := ?_) #[true, false, false, false, false, false, false, false, false, false, false, false, false, false] rfl rfl (by kernel_rfl) (fun _ _ _ h => h) (Or.inl ⟨by rfl, ?_⟩) ?_ ?_
          rotate_left
          · intro w'
            go_simp
            with_reducible rfl
          rotate_left
          · simp only [Act.put, List.setIfInBounds_toArray, List.set_cons_zero, List.set_cons_succ, i64_w, i32_w]
            rfl
          refine pure_ (i := 1) (N := some 63) (v := ?_) (a' := ?_) #[true, true, false, false, false, false, false, false, false, false, false, false, false, false] rfl rfl (by kernel_rfl) (fun _ _ _ h => h) (Or.inl ⟨by rfl, ?_⟩) ?_ ?_
          rotate_left
          · intro w'
            go_simp
            with_reducible rfl
          rotate_left
          · simp only [Act.put, List.setIfInBounds_toArray, List.set_cons_zero, List.set_cons_succ, i64_w, i32_w]
            rfl
          refine pure_ (i := 2) (N := some 64) (v := ?_) (a' := ?_) #[true, true, true, false, false, false, false, false, false, false, false, false, false, false] rfl rfl (by kernel_rfl) (fun _ _ _ h => h) (Or.inl ⟨by rfl, ?_⟩) ?_ ?_
          rotate_left
          · intro w'
            go_simp
            with_reducible rfl
          rotate_left
          · simp only [Act.put, List.setIfInBounds_toArray, List.set_cons_zero, List.set_cons_succ, i64_w, i32_w]
            rfl
          refine pure_ (i := 3) (N := some 65) (v := ?_) (a' := ?_) #[true, true, true, true, false, false, false, false, false, false, false, false, false, false] rfl rfl (by kernel_rfl) (fun _ _ _ h => h) (Or.inl ⟨by rfl, ?_⟩) ?_ ?_
          rotate_left
          · intro w'
            go_simp
            with_reducible rfl
          rotate_left
          · simp only [Act.put, List.setIfInBounds_toArray, List.set_cons_zero, List.set_cons_succ, i64_w, i32_w]
            rfl
          refine pure_ (i := 5) (N := some 67) (v := ?_) (a' := ?_) #[true, true, true, true, false, true, false, false, false, false, false, false, false, false] rfl rfl (by kernel_rfl) (fun _ _ _ h => h) (Or.inl ⟨by rfl, ?_⟩) ?_ ?_
          rotate_left
          · intro w'
            go_simp
            with_reducible rfl
          rotate_left
          · simp only [Act.put, List.setIfInBounds_toArray, List.set_cons_zero, List.set_cons_succ, i64_w, i32_w]
            rfl
          refine pure_ (i := 7) (N := some 69) (v := ?_) (a' := ?_) #[true, true, true, true, false, true, false, true, false, false, false, false, false, false] rfl rfl (by kernel_rfl) (fun _ _ _ h => h) (Or.inl ⟨by rfl, ?_⟩) ?_ ?_
          rotate_left
          · intro w'
            go_simp
            with_reducible rfl
          rotate_left
          · simp only [Act.put, List.setIfInBounds_toArray, List.set_cons_zero, List.set_cons_succ, i64_w, i32_w]
            rfl
          refine take_ (i := 4) (N := some 66) (v := ?_) (a' := ?_) #[true, true, true, true, true, true, false, true, false, false, false, false, false, false] rfl rfl (by kernel_rfl) (fun _ _ _ h => h) (Or.inl ⟨by rfl, ?_⟩) hHeld ?_ ?_
          rotate_left
          · intro w' s0
            go_simp
            with_reducible rfl
          rotate_left
          · simp only [Act.put, List.setIfInBounds_toArray, List.set_cons_zero, List.set_cons_succ, i64_w, i32_w]
            rfl
          refine one_ (i := 6) (N := some 68) #[true, true, true, true, true, true, true, true, false, false, false, false, false, false] rfl rfl (by kernel_rfl) (by decide) (fun K hK => ?_)
          refine goes_ Try.func30 (by kernel_rfl) rfl #[.slice Aw ws.length cw, .string (⟨#[]⟩ : ByteArray)] (by rfl) rfl rfl (by simp only [List.map_toArray, List.map_cons, List.map_nil]; rfl) ?_
          with_reducible refine (sq_Join Aw cw ws (⟨#[]⟩ : ByteArray) _ (HFW.out _ (KeepBut.refl _ _ _)) (HWC.out) (nOk.join HWN.out (⟨#[]⟩ : ByteArray) (by decide)).1 (nOk.join HWN.out (⟨#[]⟩ : ByteArray) (by decide)).2).mono ?_
          rintro e wj1 ⟨rfl, bj⟩
          refine ⟨_, rfl, ?_⟩
          replace HS := Aside0.mk (HS.out.below bj)
          replace HFW := Aside0.mk (Kd.C_foot_step HFW.out (KeepBut.of_below bj g none))
          have hd1 := HS.out.hd.out1.1
          clear bj
          refine hK.out _ _ (hd1) (fun hHeld => ?_)
          clear hK K
          refine norm_ (a' := ?_) ?_ ?_
          rotate_left
          · show Act.put _ (some 68) _ = _
            simp only [Act.put, List.setIfInBounds_toArray, List.set_cons_zero, List.set_cons_succ, i64_w, i32_w]
            rfl
          refine pure_ (i := 8) (N := some 70) (v := ?_) (a' := ?_) #[true, true, true, true, true, true, true, true, true, false, false, false, false, false] rfl rfl (by kernel_rfl) (fun _ _ _ h => h) (Or.inl ⟨by rfl, ?_⟩) ?_ ?_
          rotate_left
          · intro w'
            go_simp
            with_reducible rfl
          rotate_left
          · simp only [Act.put, List.setIfInBounds_toArray, List.set_cons_zero, List.set_cons_succ, i64_w, i32_w]
            rfl
          refine one_ (i := 9) (N := some 71) #[true, true, true, true, true, true, true, true, true, true, false, false, false, false] rfl rfl (by kernel_rfl) (by decide) (fun K hK => ?_)
          refine value_ (w1 := ?_) (v := ?_) (by rfl) rfl ?_ ?_
          rotate_left 2
          · go_simp
            constructor
            · rfl
            · rfl
          have hl_ := (HS.out.below (below_alloc (Below.refl _ _) (.cells ([.int .i64 0, .string ⟨#[]⟩, .string (sq_join ws (⟨#[]⟩ : ByteArray)), .string hb] : List Value).toArray 27))).hd.out1.1
          refine hK.out _ _ (hl_) (fun hHeld => ?_)
          clear hK K
          refine norm_ (a' := ?_) ?_ ?_
          rotate_left
          · show Act.put _ (some 71) _ = _
            simp only [Act.put, List.setIfInBounds_toArray, List.set_cons_zero, List.set_cons_succ, i64_w, i32_w]
            rfl
          refine last_ (i := 10) (N := some 72) #[true, true, true, true, true, true, true, true, true, true, true, false, false, false] rfl rfl (by kernel_rfl) (by decide) (fun K hK => ?_)
          refine Kd.R_append_step k27 (w0 := _) w0.heap.size (by rfl) (.tmp 66) (.tmp 71) 23 27 (.agg #[(.int .i64 0), (.string ⟨#[]⟩), (.string ⟨#[]⟩), (.string ⟨#[]⟩)]) 56 rfl Try.underlying23 info27 rfl (by decide) (by decide) v out (⟨0, ⟨#[]⟩, sq_join ws (⟨#[]⟩ : ByteArray), hb⟩ : S27) [.int .i64 0, .string ⟨#[]⟩, .string (sq_join ws (⟨#[]⟩ : ByteArray)), .string hb] (fun k => k ≠ g) (fun _ => False) rfl rfl (k27_mkM _ _ _ (⟨0, ⟨#[]⟩, sq_join ws (⟨#[]⟩ : ByteArray), hb⟩ : S27)) (fun _ hk => hk.elim) ?_ HS.out.row (Below.refl _ _) ?_ ?_ ?_
          · exact fun k hk e => absurd HS.out.hd.lt (by omega)
          · have := HS.out.hd.lt; have := HS.out.hd.ge; omega
          · omega
          intro v1 wa hra hba hga hoa
          have HA := Aside0.mk (HS.out.appended hra hga)
          have he1 := HA.out.1.out1.1
          have he2 := HA.out.1.out1.2
          replace HS := Aside0.mk HA.out.2
          obtain ⟨Aq, cq, rfl⟩ := Kd.R_slice hra
          clear hra hba hga hoa HA
          refine hK.out _ _ ?_
          clear hK K
          refine norm_ (a' := ?_) ?_ ?_
          rotate_left
          · show Act.put _ (some 72) _ = _
            simp only [Act.put, List.setIfInBounds_toArray, List.set_cons_zero, List.set_cons_succ, i64_w, i32_w]
            rfl
          refine pure_ (i := 11) (N := some 73) (v := ?_) (a' := ?_) #[true, true, true, true, true, true, true, true, true, true, true, true, false, false] rfl rfl (by kernel_rfl) (fun _ _ _ h => h) (Or.inl ⟨by rfl, ?_⟩) ?_ ?_
          rotate_left
          · intro w'
            go_simp
            with_reducible rfl
          rotate_left
          · simp only [Act.put, List.setIfInBounds_toArray, List.set_cons_zero, List.set_cons_succ, i64_w, i32_w]
            rfl
          refine pure_ (i := 12) (N := some 74) (v := ?_) (a' := ?_) #[true, true, true, true, true, true, true, true, true, true, true, true, true, false] rfl rfl (by kernel_rfl) (fun _ _ _ h => h) (Or.inl ⟨by rfl, ?_⟩) ?_ ?_
          rotate_left
          · intro w'
            go_simp
            with_reducible rfl
          rotate_left
          · simp only [Act.put, List.setIfInBounds_toArray, List.set_cons_zero, List.set_cons_succ, i64_w, i32_w]
            rfl
          refine last_ (i := 13) (N := none) #[true, true, true, true, true, true, true, true, true, true, true, true, true, true] rfl rfl (by kernel_rfl) (by decide) (fun K hK => ?_)
          refine skip_ (w1 := ?_) (by rfl) rfl ?_ ?_
          rotate_left
          · go_simp
            rfl
          refine hK.out _ _ ?_
          clear hK K
          refine done_ (by kernel_rfl) ?_
          try go_wp2
          go_ret
          rw [← HRR.out]
          exact ⟨_, rfl, by have q := HS.out; simp only [List.length_append, List.length_singleton] at q; exact q⟩
        | true =>
          obtain rfl := h3b rfl
          go_enter Try.func21, Try.ntmps21
          go_wp2_with (first | (go_at_call 28; refine (rd_words w0 _ g l v HR.out.hd hl0).mono ?_; rw [e1]; rintro e w1 ⟨v1, rfl, r1, h1, k1⟩; obtain ⟨Aw, cw, rfl⟩ := Kd.R_slice r1; have H1 := Aside0.mk (HR.out.keep h1 k1); have HWC := Aside0.mk (Kd.R_reads' r1).2.1; have HF1 := Aside0.mk (Kd.C_foot_own (g := g) (Kd.R_mono (Kd.R_bound r1) (ok' := fun k => k ≠ g) (fun k hk => by have := hk.2.1; have := HR.out.hd.lt; omega)) (fun _ hk => hk)); clear h1 k1 r1) | (go_at_call 22; with_reducible refine (rd_is w0 _ g l1 v 60 H1.out.hd).mono ?_; rw [e2]; rintro e w2 ⟨rfl, h2, k2⟩; have H2 := Aside0.mk (H1.out.keep h2 k2); have HF2 := Aside0.mk (Kd.C_foot_step HF1.out k2); have H3 := H2; have HF3 := HF2; clear h2 k2) | (go_at_call 29; refine (rd_angle w0 _ g l2 v out Aw cw _ H2.out hp2 HF2.out HWC.out HWN.out (by omega)).mono ?_; rintro e w5 ⟨v5, rfl, h5⟩; have H5 := Aside0.mk h5; clear h5) | (go_at_call 22; with_reducible refine (rd_is w0 _ g l2 v 58 H2.out.hd).mono ?_; rw [e3]; rintro e w3 ⟨rfl, h3, k3⟩; clear H3 HF3; have H3 := Aside0.mk (H2.out.keep h3 k3); have HF3 := Aside0.mk (Kd.C_foot_step HF2.out k3); have hc1 := (H3.out.below (below_drew1 (Below.refl _ _))).hd.out1.1; clear h3 k3) | (go_at_call 31; refine (rd_host w0 _ g _ v H3.out.hd).mono ?_; rw [e6]; rintro e w6 ⟨rfl, h6, k6⟩; have H6 := Aside0.mk (H3.out.keep h6 k6); have HF6 := Aside0.mk (Kd.C_foot_step HF3.out k6); have hc1 := (H6.out.below (below_drew1 (Below.refl _ _))).hd.out1.1; clear h6 k6))
          have HS := Aside0.mk (H6.out.below (below_drew1 (Below.refl _ _)))
          have HFW := Aside0.mk (Kd.C_foot_step HF6.out (KeepBut.of_below (below_drew1 (Below.refl _ _)) g none))
          refine start_ (n := 14) (S := fun w' => w'.cell? ⟨g, 1, none⟩ = some v) (ds := [10, 13]) #[false, false, false, false, false, false, false, false, false, false, false, false, false, false] (by kernel_rfl) rfl rfl (hc1) (fun hHeld => ?_)
          refine pure_ (i := 0) (N := some 62) (v := ?_) (a' := ?_) #[true, false, false, false, false, false, false, false, false, false, false, false, false, false] rfl rfl (by kernel_rfl) (fun _ _ _ h => h) (Or.inl ⟨by rfl, ?_⟩) ?_ ?_
          rotate_left
          · intro w'
            go_simp
            with_reducible rfl
          rotate_left
          · simp only [Act.put, List.setIfInBounds_toArray, List.set_cons_zero, List.set_cons_succ, i64_w, i32_w]
            rfl
          refine pure_ (i := 1) (N := some 63) (v := ?_) (a' := ?_) #[true, true, false, false, false, false, false, false, false, false, false, false, false, false] rfl rfl (by kernel_rfl) (fun _ _ _ h => h) (Or.inl ⟨by rfl, ?_⟩) ?_ ?_
          rotate_left
          · intro w'
            go_simp
            with_reducible rfl
          rotate_left
          · simp only [Act.put, List.setIfInBounds_toArray, List.set_cons_zero, List.set_cons_succ, i64_w, i32_w]
            rfl
          refine pure_ (i := 2) (N := some 64) (v := ?_) (a' := ?_) #[true, true, true, false, false, false, false, false, false, false, false, false, false, false] rfl rfl (by kernel_rfl) (fun _ _ _ h => h) (Or.inl ⟨by rfl, ?_⟩) ?_ ?_
          rotate_left
          · intro w'
            go_simp
            with_reducible rfl
          rotate_left
          · simp only [Act.put, List.setIfInBounds_toArray, List.set_cons_zero, List.set_cons_succ, i64_w, i32_w]
            rfl
          refine pure_ (i := 3) (N := some 65) (v := ?_) (a' := ?_) #[true, true, true, true, false, false, false, false, false, false, false, false, false, false] rfl rfl (by kernel_rfl) (fun _ _ _ h => h) (Or.inl ⟨by rfl, ?_⟩) ?_ ?_
          rotate_left
          · intro w'
            go_simp
            with_reducible rfl
          rotate_left
          · simp only [Act.put, List.setIfInBounds_toArray, List.set_cons_zero, List.set_cons_succ, i64_w, i32_w]
            rfl
          refine pure_ (i := 5) (N := some 67) (v := ?_) (a' := ?_) #[true, true, true, true, false, true, false, false, false, false, false, false, false, false] rfl rfl (by kernel_rfl) (fun _ _ _ h => h) (Or.inl ⟨by rfl, ?_⟩) ?_ ?_
          rotate_left
          · intro w'
            go_simp
            with_reducible rfl
          rotate_left
          · simp only [Act.put, List.setIfInBounds_toArray, List.set_cons_zero, List.set_cons_succ, i64_w, i32_w]
            rfl
          refine pure_ (i := 7) (N := some 69) (v := ?_) (a' := ?_) #[true, true, true, true, false, true, false, true, false, false, false, false, false, false] rfl rfl (by kernel_rfl) (fun _ _ _ h => h) (Or.inl ⟨by rfl, ?_⟩) ?_ ?_
          rotate_left
          · intro w'
            go_simp
            with_reducible rfl
          rotate_left
          · simp only [Act.put, List.setIfInBounds_toArray, List.set_cons_zero, List.set_cons_succ, i64_w, i32_w]
            rfl
          refine take_ (i := 4) (N := some 66) (v := ?_) (a' := ?_) #[true, true, true, true, true, true, false, true, false, false, false, false, false, false] rfl rfl (by kernel_rfl) (fun _ _ _ h => h) (Or.inl ⟨by rfl, ?_⟩) hHeld ?_ ?_
          rotate_left
          · intro w' s0
            go_simp
            with_reducible rfl
          rotate_left
          · simp only [Act.put, List.setIfInBounds_toArray, List.set_cons_zero, List.set_cons_succ, i64_w, i32_w]
            rfl
          refine one_ (i := 6) (N := some 68) #[true, true, true, true, true, true, true, true, false, false, false, false, false, false] rfl rfl (by kernel_rfl) (by decide) (fun K hK => ?_)
          refine goes_ Try.func30 (by kernel_rfl) rfl #[.slice Aw ws.length cw, .string (⟨#[]⟩ : ByteArray)] (by rfl) rfl rfl (by simp only [List.map_toArray, List.map_cons, List.map_nil]; rfl) ?_
          with_reducible refine (sq_Join Aw cw ws (⟨#[]⟩ : ByteArray) _ (HFW.out _ (KeepBut.refl _ _ _)) (HWC.out) (nOk.join HWN.out (⟨#[]⟩ : ByteArray) (by decide)).1 (nOk.join HWN.out (⟨#[]⟩ : ByteArray) (by decide)).2).mono ?_
          rintro e wj1 ⟨rfl, bj⟩
          refine ⟨_, rfl, ?_⟩
          replace HS := Aside0.mk (HS.out.below bj)
          replace HFW := Aside0.mk (Kd.C_foot_step HFW.out (KeepBut.of_below bj g none))
          have hd1 := HS.out.hd.out1.1
          clear bj
          refine hK.out _ _ (hd1) (fun hHeld => ?_)
          clear hK K
          refine norm_ (a' := ?_) ?_ ?_
          rotate_left
          · show Act.put _ (some 68) _ = _
            simp only [Act.put, List.setIfInBounds_toArray, List.set_cons_zero, List.set_cons_succ, i64_w, i32_w]
            rfl
          refine pure_ (i := 8) (N := some 70) (v := ?_) (a' := ?_) #[true, true, true, true, true, true, true, true, true, false, false, false, false, false] rfl rfl (by kernel_rfl) (fun _ _ _ h => h) (Or.inl ⟨by rfl, ?_⟩) ?_ ?_
          rotate_left
          · intro w'
            go_simp
            with_reducible rfl
          rotate_left
          · simp only [Act.put, List.setIfInBounds_toArray, List.set_cons_zero, List.set_cons_succ, i64_w, i32_w]
            rfl
          refine one_ (i := 9) (N := some 71) #[true, true, true, true, true, true, true, true, true, true, false, false, false, false] rfl rfl (by kernel_rfl) (by decide) (fun K hK => ?_)
          refine value_ (w1 := ?_) (v := ?_) (by rfl) rfl ?_ ?_
          rotate_left 2
          · go_simp
            constructor
            · rfl
            · rfl
          have hl_ := (HS.out.below (below_alloc (Below.refl _ _) (.cells ([.int .i64 0, .string ⟨#[]⟩, .string (sq_join ws (⟨#[]⟩ : ByteArray)), .string hb] : List Value).toArray 27))).hd.out1.1
          refine hK.out _ _ (hl_) (fun hHeld => ?_)
          clear hK K
          refine norm_ (a' := ?_) ?_ ?_
          rotate_left
          · show Act.put _ (some 71) _ = _
            simp only [Act.put, List.setIfInBounds_toArray, List.set_cons_zero, List.set_cons_succ, i64_w, i32_w]
            rfl
          refine last_ (i := 10) (N := some 72) #[true, true, true, true, true, true, true, true, true, true, true, false, false, false] rfl rfl (by kernel_rfl) (by decide) (fun K hK => ?_)
          refine Kd.R_append_step k27 (w0 := _) w0.heap.size (by rfl) (.tmp 66) (.tmp 71) 23 27 (.agg #[(.int .i64 0), (.string ⟨#[]⟩), (.string ⟨#[]⟩), (.string ⟨#[]⟩)]) 56 rfl Try.underlying23 info27 rfl (by decide) (by decide) v out (⟨0, ⟨#[]⟩, sq_join ws (⟨#[]⟩ : ByteArray), hb⟩ : S27) [.int .i64 0, .string ⟨#[]⟩, .string (sq_join ws (⟨#[]⟩ : ByteArray)), .string hb] (fun k => k ≠ g) (fun _ => False) rfl rfl (k27_mkM _ _ _ (⟨0, ⟨#[]⟩, sq_join ws (⟨#[]⟩ : ByteArray), hb⟩ : S27)) (fun _ hk => hk.elim) ?_ HS.out.row (Below.refl _ _) ?_ ?_ ?_
          · exact fun k hk e => absurd HS.out.hd.lt (by omega)
          · have := HS.out.hd.lt; have := HS.out.hd.ge; omega
          · omega
          intro v1 wa hra hba hga hoa
          have HA := Aside0.mk (HS.out.appended hra hga)
          have he1 := HA.out.1.out1.1
          have he2 := HA.out.1.out1.2
          replace HS := Aside0.mk HA.out.2
          obtain ⟨Aq, cq, rfl⟩ := Kd.R_slice hra
          clear hra hba hga hoa HA
          refine hK.out _ _ ?_
          clear hK K
          refine norm_ (a' := ?_) ?_ ?_
          rotate_left
          · show Act.put _ (some 72) _ = _
            simp only [Act.put, List.setIfInBounds_toArray, List.set_cons_zero, List.set_cons_succ, i64_w, i32_w]
            rfl
          refine pure_ (i := 11) (N := some 73) (v := ?_) (a' := ?_) #[true, true, true, true, true, true, true, true, true, true, true, true, false, false] rfl rfl (by kernel_rfl) (fun _ _ _ h => h) (Or.inl ⟨by rfl, ?_⟩) ?_ ?_
          rotate_left
          · intro w'
            go_simp
            with_reducible rfl
          rotate_left
          · simp only [Act.put, List.setIfInBounds_toArray, List.set_cons_zero, List.set_cons_succ, i64_w, i32_w]
            rfl
          refine pure_ (i := 12) (N := some 74) (v := ?_) (a' := ?_) #[true, true, true, true, true, true, true, true, true, true, true, true, true, false] rfl rfl (by kernel_rfl) (fun _ _ _ h => h) (Or.inl ⟨by rfl, ?_⟩) ?_ ?_
          rotate_left
          · intro w'
            go_simp
            with_reducible rfl
          rotate_left
          · simp only [Act.put, List.setIfInBounds_toArray, List.set_cons_zero, List.set_cons_succ, i64_w, i32_w]
            rfl
          refine last_ (i := 13) (N := none) #[true, true, true, true, true, true, true, true, true, true, true, true, true, true] rfl rfl (by kernel_rfl) (by decide) (fun K hK => ?_)
          refine skip_ (w1 := ?_) (by rfl) rfl ?_ ?_
          rotate_left
          · go_simp
            rfl
          refine hK.out _ _ ?_
          clear hK K
          refine done_ (by kernel_rfl) ?_
          try go_wp2
          go_ret
          rw [← HRR.out]
          exact ⟨_, rfl, by have q := HS.out; simp only [List.length_append, List.length_singleton] at q; exact q⟩
end Go.Proofs.Ytcjepgofcojeoaa.P
