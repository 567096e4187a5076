import Derived.Test.YtcjepgofcojeoaaZRd
namespace Go.Proofs.Ytcjepgofcojeoaa.P
open Go.RowKit Go.Proofs.YtcjepgofcojeoaaW.PrintWords Go.Proofs.YtcjepgofcojeoaaW.PrintLast Go.Proofs.YtcjepgofcojeoaaW.PrintMore
attribute [-simp] Int.tmod_tmod_of_dvd
set_option linter.unusedVariables false
set_option linter.unusedSimpArgs false
/-! a reader with what it has told so far -/
structure Rs (w0 w : World) (g : Nat) (l : List Pc) (v : Value) (out : List S27) : Prop where
  hd : Hd w0 w g l v
  row : k27.R 27 w w0.heap.size (fun k => k ≠ g) v out
theorem Rs.keep {w0 w w1 : World} {g : Nat} {l l1 : List Pc} {v : Value} {out : List S27} (h : Rs w0 w g l v out) (h1 : Hd w0 w1 g l1 v) (k : KeepBut w w1 g none) : Rs w0 w1 g l1 v out := ⟨h1, Kd.R_keep h.row k (fun _ hk => hk)⟩
theorem Rs.below {w0 w w1 : World} {g : Nat} {l : List Pc} {v : Value} {out : List S27} (h : Rs w0 w g l v out) (hb : Below w.heap.size w w1) : Rs w0 w1 g l v out := ⟨h.hd.below hb, Kd.R_below h.row hb⟩
theorem Hd.out1 {w0 w : World} {g : Nat} {l : List Pc} {v : Value} (h : Hd w0 w g l v) : w.cell? ⟨g, 1, none⟩ = some v ∧ w.frozen? ⟨g, 1, none⟩ = false := by
  obtain ⟨⟨A, cp, hg, _, _⟩, _, _⟩ := h
  exact ⟨(blk_cell hg 1).trans rfl, blk_frozen hg 1⟩
theorem Rs.appended {w0 w w1 : World} {g : Nat} {l : List Pc} {v v1 : Value} {out out1 : List S27} (h : Rs w0 w g l v out) (hr : k27.R 27 w1 w0.heap.size (fun k => k ≠ g) v1 out1) (hg : w.grownBy w1 v.ownBlock) :
    Hd w0 w1 g l v ∧ Rs w0 (w1.setCell ⟨g, 1, none⟩ v1) g l v1 out1 := by
  have h1 : Hd w0 w1 g l v := h.hd.grown1 hg (fun b e => ⟨h.row.1 b e, Kd.R_base h.row b e⟩)
  refine ⟨h1, ?_, Kd.R_far hr (p := ⟨g, 1, none⟩) (fun k hk => hk) _⟩
  obtain ⟨⟨A, cp, hb, h3, h4⟩, hge, hbel⟩ := h1
  exact ⟨⟨A, cp, blk_put hb 1 _ rfl, h3, h4⟩, hge, hbel.setCell (show w0.heap.size ≤ g from hge) _⟩
def nOk (l : List ByteArray) : Prop := l.length ≤ 1000000 ∧ ∀ b ∈ l, b.size ≤ 1000000
theorem join_len (m : Nat) (sep : List UInt8) : ∀ l : List (List UInt8), (∀ b ∈ l, b.length ≤ m) → (Lib.join l sep).length ≤ l.length * (m + sep.length)
  | [], _ => by rw [Lib.join_nil]; exact Nat.zero_le _
  | [a], h => by
    have := h a List.mem_cons_self
    rw [Lib.join_one, List.length_singleton, Nat.one_mul]
    omega
  | a :: b :: l, h => by
    have ih := join_len m sep (b :: l) (fun x hx => h x (List.mem_cons_of_mem _ hx))
    have h1 := h a List.mem_cons_self
    have e : (Lib.join (a :: b :: l) sep).length = a.length + sep.length + (Lib.join (b :: l) sep).length := by
      rw [Lib.join_cons, Lib.join_cons, Lib.joinTail, Lib.joinTail, List.map_cons, List.flatten_cons]
      simp only [List.length_append]
      omega
    have e2 : (a :: b :: l).length * (m + sep.length) = (b :: l).length * (m + sep.length) + (m + sep.length) := by rw [List.length_cons (a := a), Nat.succ_mul]
    omega
theorem nOk.join {l : List ByteArray} (h : nOk l) (sep : ByteArray) (hs : sep.size ≤ 1) : l.length ≤ 140737488355328 ∧ (Lib.join (l.map (·.data.toList)) sep.data.toList).length ≤ 140737488355328 := by
  have h1 := h.1
  refine ⟨by omega, ?_⟩
  have := join_len 1000000 sep.data.toList (l.map (·.data.toList)) (by
    intro b hb
    obtain ⟨s, hs, rfl⟩ := List.mem_map.1 hb
    have := h.2 s hs
    simpa using this)
  have e : sep.data.toList.length = sep.size := Array.length_toList
  rw [List.length_map, e] at this
  have h3 : l.length * (1000000 + sep.size) ≤ 1000000 * 1000001 := Nat.mul_le_mul h1 (by omega)
  omega
def pOk (l : List Pc) : Prop := l.length ≤ 1000000 ∧ ∀ b, Pc.w b ∈ l → b.size ≤ 1000000
theorem pOk.tail {p : Pc} {t : List Pc} (h : pOk (p :: t)) : pOk t := ⟨by have := h.1; simp at this; omega, fun b hb => h.2 b (List.mem_cons_of_mem _ hb)⟩
theorem pOk.is {l : List Pc} (h : pOk l) (c : Int) : pOk (isP l c).2 := by
  unfold isP
  split
  · split
    · exact h.tail
    · exact h
  · exact h
theorem pOk.host {l : List Pc} (h : pOk l) : pOk (hostP l).2.2 := by
  have h1 := h.is 64
  unfold hostP
  cases hi : isP l 64 with
  | mk b l1 =>
    rw [hi] at h1
    cases b with
    | false => exact h1
    | true =>
      cases l1 with
      | nil => exact h1
      | cons p t =>
        cases p with
        | s x => exact h1
        | w x => exact h1.tail
theorem pOk.words : ∀ {l : List Pc}, pOk l → nOk (wordsP l).1 ∧ pOk (wordsP l).2 ∧ (wordsP l).1.length + (wordsP l).2.length = l.length
  | [], h => ⟨⟨by simp [wordsP], fun b hb => by simp [wordsP] at hb⟩, h, by simp [wordsP]⟩
  | .s x :: t, h => ⟨⟨by simp [wordsP], fun b hb => by simp [wordsP] at hb⟩, h, by simp [wordsP]⟩
  | .w x :: t, h => by
    obtain ⟨h1, h2, h3⟩ := pOk.words h.tail
    have h4 := h.1
    have h5 := h.2 x List.mem_cons_self
    simp only [List.length_cons] at h4
    refine ⟨⟨?_, ?_⟩, h2, ?_⟩
    · simp only [wordsP, List.length_cons]; omega
    · intro b hb
      simp only [wordsP] at hb
      rcases List.mem_cons.1 hb with rfl | hb
      · exact h5
      · exact h1.2 b hb
    · simp only [wordsP, List.length_cons]; omega
theorem pOk.way (d : Nat) : ∀ (sm : Bool) (l : List Pc), pOk l → pOk (wayL d sm l).2 ∧ (wayL d sm l).2.length ≤ l.length := by
  induction d with
  | zero => intro sm l h; exact ⟨h, Nat.le_refl _⟩
  | succ d ih =>
    intro sm l h
    rw [wayL]
    have h1 := hostP_len l
    split
    · split
      · have h2 := ih true (isP (hostP l).2.2 44).2 (h.host.is 44)
        have h3 := isP_len (hostP l).2.2 44
        exact ⟨h2.1, by omega⟩
      · exact ⟨h.host, h1⟩
    · split
      · exact ⟨h.is 58, isP_len l 58⟩
      · exact ⟨h, Nat.le_refl _⟩
def sp1 : ByteArray := ⟨#[32]⟩
def angleP (name : List ByteArray) (l : List Pc) : Bool × List Pc × List S27 :=
  if (wayP l).1 = false then (false, (wayP l).2, []) else
  let ws := wordsP (wayP l).2
  let h := hostP ws.2
  if h.2.1 = false ∨ ws.1 = [] then (false, h.2.2, []) else
  if (isP h.2.2 62).1 = false then (false, (isP h.2.2 62).2, []) else (true, (isP h.2.2 62).2, [⟨0, sq_join name (⟨#[32]⟩ : ByteArray), sq_join ws.1 (⟨#[]⟩ : ByteArray), h.1⟩])
set_option maxHeartbeats 4000000 in
set_option maxRecDepth 100000 in
theorem rd_angle (w0 w : World) (g : Nat) (l : List Pc) (v : Value) (out : List S27) (An : Option Addr) (cn : Nat) (name : List ByteArray) (h : Rs w0 w g l v out) (hp : pOk l) (hn : ∀ W', KeepBut w W' g none → Kd.string.C W' An name.length name) (hnc : name.length ≤ cn) (hno : nOk name) (hol : out.length ≤ 1000000) :
    Calls Try.prog 29 #[.pointer (some ⟨g, 0, none⟩), .slice An name.length cn] w fun e w' => ∃ v', e = .returned (.bool (angleP name l).1) ∧ Rs w0 w' g (angleP name l).2.1 v' (out ++ (angleP name l).2.2) := by
  have HR := Aside0.mk h
  have HNM := Aside0.mk hn
  have HLT := Aside0.mk h.hd.lt
  have C1 := Aside0.mk (rd_way w0 w g l v h.hd)
  have hp1 := (pOk.way (l.length + 1) false l hp).1
  clear h hn
  obtain ⟨R, hR⟩ : ∃ R, angleP name l = R := ⟨_, rfl⟩
  rw [hR]
  unfold angleP at hR
  obtain ⟨b1, l1, e1⟩ : ∃ b1 l1, wayP l = (b1, l1) := ⟨_, _, rfl⟩
  have hp1' : pOk l1 := by
    have : wayL (l.length + 1) false l = (b1, l1) := e1
    rw [this] at hp1
    exact hp1
  rw [e1] at C1 hR
  simp only at hR C1
  cases b1 with
  | false =>
    rw [if_pos rfl] at hR
    have HRR := Aside0.mk hR
    clear hR
    go_enter Try.func29, Try.ntmps29
    go_wp2_with (go_at_call 34; refine C1.out.mono ?_; rintro e w1 ⟨rfl, h1, k1⟩; have H1 := Aside0.mk (HR.out.keep h1 k1); clear h1 k1)
    go_ret
    rw [← HRR.out]
    exact ⟨_, rfl, by simpa using H1.out⟩
  | true =>
    rw [if_neg (by decide)] at hR
    obtain ⟨ws, l2, e2⟩ : ∃ ws l2, wordsP l1 = (ws, l2) := ⟨_, _, rfl⟩
    have hw := pOk.words hp1'
    rw [e2] at hw hR
    obtain ⟨hb, ok, l3, e3⟩ : ∃ hb ok l3, hostP l2 = (hb, ok, l3) := ⟨_, _, _, rfl⟩
    have hp3 := hw.2.1.host
    rw [e3] at hR hp3
    simp only at hR hw hp3
    have hl1 := hp1'.1
    have HWN := Aside0.mk hw.1
    cases ok with
    | false =>
      rw [if_pos (.inl rfl)] at hR
      have HRR := Aside0.mk hR
      clear hR
      go_enter Try.func29, Try.ntmps29
      go_wp2_with (first | (go_at_call 34; refine C1.out.mono ?_; rintro e w1 ⟨rfl, h1, k1⟩; have H1 := Aside0.mk (HR.out.keep h1 k1); have K1 := Aside0.mk k1; clear h1 k1) | (go_at_call 28; refine (rd_words w0 _ g l1 v H1.out.hd hl1).mono ?_; rw [e2]; rintro e w2 ⟨v2, rfl, r2, h2, k2⟩; obtain ⟨Aw, cw, rfl⟩ := Kd.R_slice r2; have H2 := Aside0.mk (H1.out.keep h2 k2); have K2 := Aside0.mk (KeepBut.trans K1.out k2 (.inl rfl)); have HWC := Aside0.mk (Kd.R_reads' r2).2.1; have HWF := Aside0.mk (Kd.C_foot_own (g := g) (Kd.R_mono (Kd.R_bound r2) (ok' := fun k => k ≠ g) (fun k hk => by have := hk.2.1; have := H1.out.hd.lt; omega)) (fun _ hk => hk)); clear h2 k2 r2) | (go_at_call 31; refine (rd_host w0 _ g l2 v H2.out.hd).mono ?_; rw [e3]; rintro e w3 ⟨rfl, h3, k3⟩; have H3 := Aside0.mk (H2.out.keep h3 k3); have K3 := Aside0.mk (KeepBut.trans K2.out k3 (.inl rfl)); have HWG := Aside0.mk (Kd.C_foot_step HWF.out k3); clear h3 k3) | (go_at_call 22; refine (rd_is w0 _ g l3 v 62 H3.out.hd).mono ?_; rw [e4]; rintro e w4 ⟨rfl, h4, k4⟩; have H4 := Aside0.mk (H3.out.keep h4 k4); have K4 := Aside0.mk (KeepBut.trans K3.out k4 (.inl rfl)); have HWH := Aside0.mk (Kd.C_foot_step HWG.out k4); have hc1 := (H4.out.below (below_drew1 (Below.refl _ _))).hd.out1.1; clear h4 k4))
      go_ret
      rw [← HRR.out]
      exact ⟨_, rfl, by simpa using H3.out⟩
    | true =>
      cases ws with
      | nil =>
        rw [if_pos (.inr rfl)] at hR
        have HRR := Aside0.mk hR
        clear hR
        go_enter Try.func29, Try.ntmps29
        go_wp2_with (first | (go_at_call 34; refine C1.out.mono ?_; rintro e w1 ⟨rfl, h1, k1⟩; have H1 := Aside0.mk (HR.out.keep h1 k1); have K1 := Aside0.mk k1; clear h1 k1) | (go_at_call 28; refine (rd_words w0 _ g l1 v H1.out.hd hl1).mono ?_; rw [e2]; rintro e w2 ⟨v2, rfl, r2, h2, k2⟩; obtain ⟨Aw, cw, rfl⟩ := Kd.R_slice r2; have H2 := Aside0.mk (H1.out.keep h2 k2); have K2 := Aside0.mk (KeepBut.trans K1.out k2 (.inl rfl)); have HWC := Aside0.mk (Kd.R_reads' r2).2.1; have HWF := Aside0.mk (Kd.C_foot_own (g := g) (Kd.R_mono (Kd.R_bound r2) (ok' := fun k => k ≠ g) (fun k hk => by have := hk.2.1; have := H1.out.hd.lt; omega)) (fun _ hk => hk)); clear h2 k2 r2) | (go_at_call 31; refine (rd_host w0 _ g l2 v H2.out.hd).mono ?_; rw [e3]; rintro e w3 ⟨rfl, h3, k3⟩; have H3 := Aside0.mk (H2.out.keep h3 k3); have K3 := Aside0.mk (KeepBut.trans K2.out k3 (.inl rfl)); have HWG := Aside0.mk (Kd.C_foot_step HWF.out k3); clear h3 k3) | (go_at_call 22; refine (rd_is w0 _ g l3 v 62 H3.out.hd).mono ?_; rw [e4]; rintro e w4 ⟨rfl, h4, k4⟩; have H4 := Aside0.mk (H3.out.keep h4 k4); have K4 := Aside0.mk (KeepBut.trans K3.out k4 (.inl rfl)); have HWH := Aside0.mk (Kd.C_foot_step HWG.out k4); have hc1 := (H4.out.below (below_drew1 (Below.refl _ _))).hd.out1.1; clear h4 k4))
        go_ret
        rw [← HRR.out]
        exact ⟨_, rfl, by simpa using H3.out⟩
      | cons wa wt =>
        rw [if_neg (by simp)] at hR
        have hwl : (((wa :: wt).length : Int) == 0) = false := by rw [beq_eq_false_iff_ne]; simp; omega
        generalize hws : wa :: wt = ws at e2 hw HWN hR hwl
        obtain ⟨b4, l4, e4⟩ : ∃ b4 l4, isP l3 62 = (b4, l4) := ⟨_, _, rfl⟩
        rw [e4] at hR
        simp only at hR
        cases b4 with
        | false =>
          rw [if_pos rfl] at hR
          have HRR := Aside0.mk hR
          clear hR
          go_enter Try.func29, Try.ntmps29
          go_wp2_with (first | (go_at_call 34; refine C1.out.mono ?_; rintro e w1 ⟨rfl, h1, k1⟩; have H1 := Aside0.mk (HR.out.keep h1 k1); have K1 := Aside0.mk k1; clear h1 k1) | (go_at_call 28; refine (rd_words w0 _ g l1 v H1.out.hd hl1).mono ?_; rw [e2]; rintro e w2 ⟨v2, rfl, r2, h2, k2⟩; obtain ⟨Aw, cw, rfl⟩ := Kd.R_slice r2; have H2 := Aside0.mk (H1.out.keep h2 k2); have K2 := Aside0.mk (KeepBut.trans K1.out k2 (.inl rfl)); have HWC := Aside0.mk (Kd.R_reads' r2).2.1; have HWF := Aside0.mk (Kd.C_foot_own (g := g) (Kd.R_mono (Kd.R_bound r2) (ok' := fun k => k ≠ g) (fun k hk => by have := hk.2.1; have := H1.out.hd.lt; omega)) (fun _ hk => hk)); clear h2 k2 r2) | (go_at_call 31; refine (rd_host w0 _ g l2 v H2.out.hd).mono ?_; rw [e3]; rintro e w3 ⟨rfl, h3, k3⟩; have H3 := Aside0.mk (H2.out.keep h3 k3); have K3 := Aside0.mk (KeepBut.trans K2.out k3 (.inl rfl)); have HWG := Aside0.mk (Kd.C_foot_step HWF.out k3); clear h3 k3) | (go_at_call 22; refine (rd_is w0 _ g l3 v 62 H3.out.hd).mono ?_; rw [e4]; rintro e w4 ⟨rfl, h4, k4⟩; have H4 := Aside0.mk (H3.out.keep h4 k4); have K4 := Aside0.mk (KeepBut.trans K3.out k4 (.inl rfl)); have HWH := Aside0.mk (Kd.C_foot_step HWG.out k4); have hc1 := (H4.out.below (below_drew1 (Below.refl _ _))).hd.out1.1; clear h4 k4))
          go_ret
          rw [← HRR.out]
          exact ⟨_, rfl, by simpa using H4.out⟩
        | true =>
          rw [if_neg (by decide)] at hR
          have HRR := Aside0.mk hR
          clear hR
          go_enter Try.func29, Try.ntmps29
          go_wp2_with (first | (go_at_call 34; refine C1.out.mono ?_; rintro e w1 ⟨rfl, h1, k1⟩; have H1 := Aside0.mk (HR.out.keep h1 k1); have K1 := Aside0.mk k1; clear h1 k1) | (go_at_call 28; refine (rd_words w0 _ g l1 v H1.out.hd hl1).mono ?_; rw [e2]; rintro e w2 ⟨v2, rfl, r2, h2, k2⟩; obtain ⟨Aw, cw, rfl⟩ := Kd.R_slice r2; have H2 := Aside0.mk (H1.out.keep h2 k2); have K2 := Aside0.mk (KeepBut.trans K1.out k2 (.inl rfl)); have HWC := Aside0.mk (Kd.R_reads' r2).2.1; have HWF := Aside0.mk (Kd.C_foot_own (g := g) (Kd.R_mono (Kd.R_bound r2) (ok' := fun k => k ≠ g) (fun k hk => by have := hk.2.1; have := H1.out.hd.lt; omega)) (fun _ hk => hk)); clear h2 k2 r2) | (go_at_call 31; refine (rd_host w0 _ g l2 v H2.out.hd).mono ?_; rw [e3]; rintro e w3 ⟨rfl, h3, k3⟩; have H3 := Aside0.mk (H2.out.keep h3 k3); have K3 := Aside0.mk (KeepBut.trans K2.out k3 (.inl rfl)); have HWG := Aside0.mk (Kd.C_foot_step HWF.out k3); clear h3 k3) | (go_at_call 22; refine (rd_is w0 _ g l3 v 62 H3.out.hd).mono ?_; rw [e4]; rintro e w4 ⟨rfl, h4, k4⟩; have H4 := Aside0.mk (H3.out.keep h4 k4); have K4 := Aside0.mk (KeepBut.trans K3.out k4 (.inl rfl)); have HWH := Aside0.mk (Kd.C_foot_step HWG.out k4); have hc1 := (H4.out.below (below_drew1 (Below.refl _ _))).hd.out1.1; clear h4 k4))
          have HS := Aside0.mk (H4.out.below (below_drew1 (Below.refl _ _)))
          have HFN := Aside0.mk (Kd.C_foot_step (Kd.C_foot_step HNM.out K4.out) (KeepBut.of_below (below_drew1 (Below.refl _ _)) g none))
          have HFW := Aside0.mk (Kd.C_foot_step HWH.out (KeepBut.of_below (below_drew1 (Below.refl _ _)) g none))
          refine start_ (n := 16) (S := fun w' => w'.cell? ⟨g, 1, none⟩ = some v) (ds := [12, 15]) #[false, false, false, false, false, false, false, false, false, false, false, false, false, false, false, false] (by kernel_rfl) rfl rfl (hc1) (fun hHeld => ?_)
          refine pure_ (i := 0) (N := some 30) (v := ?_) (a' := ?_) #[true, false, false, false, false, false, false, false, false, false, false, false, false, false, false, false] rfl rfl (by kernel_rfl) (fun _ _ _ h => h) (Or.inl ⟨by rfl, ?_⟩) ?_ ?_
          rotate_left
          · intro w'
            go_simp
            with_reducible rfl
          rotate_left
          · simp only [Act.put, List.setIfInBounds_toArray, List.set_cons_zero, List.set_cons_succ, i64_w, i32_w]
            rfl
          refine pure_ (i := 1) (N := some 31) (v := ?_) (a' := ?_) #[true, true, false, false, false, false, false, false, false, false, false, false, false, false, false, false] rfl rfl (by kernel_rfl) (fun _ _ _ h => h) (Or.inl ⟨by rfl, ?_⟩) ?_ ?_
          rotate_left
          · intro w'
            go_simp
            with_reducible rfl
          rotate_left
          · simp only [Act.put, List.setIfInBounds_toArray, List.set_cons_zero, List.set_cons_succ, i64_w, i32_w]
            rfl
          refine pure_ (i := 2) (N := some 32) (v := ?_) (a' := ?_) #[true, true, true, false, false, false, false, false, false, false, false, false, false, false, false, false] rfl rfl (by kernel_rfl) (fun _ _ _ h => h) (Or.inl ⟨by rfl, ?_⟩) ?_ ?_
          rotate_left
          · intro w'
            go_simp
            with_reducible rfl
          rotate_left
          · simp only [Act.put, List.setIfInBounds_toArray, List.set_cons_zero, List.set_cons_succ, i64_w, i32_w]
            rfl
          refine pure_ (i := 3) (N := some 33) (v := ?_) (a' := ?_) #[true, true, true, true, false, false, false, false, false, false, false, false, false, false, false, false] rfl rfl (by kernel_rfl) (fun _ _ _ h => h) (Or.inl ⟨by rfl, ?_⟩) ?_ ?_
          rotate_left
          · intro w'
            go_simp
            with_reducible rfl
          rotate_left
          · simp only [Act.put, List.setIfInBounds_toArray, List.set_cons_zero, List.set_cons_succ, i64_w, i32_w]
            rfl
          refine pure_ (i := 5) (N := some 35) (v := ?_) (a' := ?_) #[true, true, true, true, false, true, false, false, false, false, false, false, false, false, false, false] rfl rfl (by kernel_rfl) (fun _ _ _ h => h) (Or.inl ⟨by rfl, ?_⟩) ?_ ?_
          rotate_left
          · intro w'
            go_simp
            with_reducible rfl
          rotate_left
          · simp only [Act.put, List.setIfInBounds_toArray, List.set_cons_zero, List.set_cons_succ, i64_w, i32_w]
            rfl
          refine pure_ (i := 7) (N := some 37) (v := ?_) (a' := ?_) #[true, true, true, true, false, true, false, true, false, false, false, false, false, false, false, false] rfl rfl (by kernel_rfl) (fun _ _ _ h => h) (Or.inl ⟨by rfl, ?_⟩) ?_ ?_
          rotate_left
          · intro w'
            go_simp
            with_reducible rfl
          rotate_left
          · simp only [Act.put, List.setIfInBounds_toArray, List.set_cons_zero, List.set_cons_succ, i64_w, i32_w]
            rfl
          refine pure_ (i := 9) (N := some 39) (v := ?_) (a' := ?_) #[true, true, true, true, false, true, false, true, false, true, false, false, false, false, false, false] rfl rfl (by kernel_rfl) (fun _ _ _ h => h) (Or.inl ⟨by rfl, ?_⟩) ?_ ?_
          rotate_left
          · intro w'
            go_simp
            with_reducible rfl
          rotate_left
          · simp only [Act.put, List.setIfInBounds_toArray, List.set_cons_zero, List.set_cons_succ, i64_w, i32_w]
            rfl
          refine take_ (i := 4) (N := some 34) (v := ?_) (a' := ?_) #[true, true, true, true, true, true, false, true, false, true, false, false, false, false, false, false] rfl rfl (by kernel_rfl) (fun _ _ _ h => h) (Or.inl ⟨by rfl, ?_⟩) hHeld ?_ ?_
          rotate_left
          · intro w' s0
            go_simp
            with_reducible rfl
          rotate_left
          · simp only [Act.put, List.setIfInBounds_toArray, List.set_cons_zero, List.set_cons_succ, i64_w, i32_w]
            rfl
          refine one_ (i := 6) (N := some 36) #[true, true, true, true, true, true, true, true, false, true, false, false, false, false, false, false] rfl rfl (by kernel_rfl) (by decide) (fun K hK => ?_)
          refine goes_ Try.func30 (by kernel_rfl) rfl #[.slice An name.length cn, .string (⟨#[32]⟩ : ByteArray)] (by rfl) rfl rfl (by simp only [List.map_toArray, List.map_cons, List.map_nil]; rfl) ?_
          with_reducible refine (sq_Join An cn name (⟨#[32]⟩ : ByteArray) _ (HFN.out _ (KeepBut.refl _ _ _)) (hnc) (nOk.join hno (⟨#[32]⟩ : ByteArray) (by decide)).1 (nOk.join hno (⟨#[32]⟩ : ByteArray) (by decide)).2).mono ?_
          rintro e wj1 ⟨rfl, bj⟩
          refine ⟨_, rfl, ?_⟩
          replace HS := Aside0.mk (HS.out.below bj)
          replace HFN := Aside0.mk (Kd.C_foot_step HFN.out (KeepBut.of_below bj g none))
          replace HFW := Aside0.mk (Kd.C_foot_step HFW.out (KeepBut.of_below bj g none))
          have hd1 := HS.out.hd.out1.1
          clear bj
          refine hK.out _ _ (hd1) (fun hHeld => ?_)
          clear hK K
          refine norm_ (a' := ?_) ?_ ?_
          rotate_left
          · show Act.put _ (some 36) _ = _
            simp only [Act.put, List.setIfInBounds_toArray, List.set_cons_zero, List.set_cons_succ, i64_w, i32_w]
            rfl
          refine one_ (i := 8) (N := some 38) #[true, true, true, true, true, true, true, true, true, true, false, false, false, false, false, false] rfl rfl (by kernel_rfl) (by decide) (fun K hK => ?_)
          refine goes_ Try.func30 (by kernel_rfl) rfl #[.slice Aw ws.length cw, .string (⟨#[]⟩ : ByteArray)] (by rfl) rfl rfl (by simp only [List.map_toArray, List.map_cons, List.map_nil]; rfl) ?_
          with_reducible refine (sq_Join Aw cw ws (⟨#[]⟩ : ByteArray) _ (HFW.out _ (KeepBut.refl _ _ _)) (HWC.out) (nOk.join HWN.out (⟨#[]⟩ : ByteArray) (by decide)).1 (nOk.join HWN.out (⟨#[]⟩ : ByteArray) (by decide)).2).mono ?_
          rintro e wj2 ⟨rfl, bj⟩
          refine ⟨_, rfl, ?_⟩
          replace HS := Aside0.mk (HS.out.below bj)
          replace HFN := Aside0.mk (Kd.C_foot_step HFN.out (KeepBut.of_below bj g none))
          replace HFW := Aside0.mk (Kd.C_foot_step HFW.out (KeepBut.of_below bj g none))
          have hd2 := HS.out.hd.out1.1
          clear bj
          refine hK.out _ _ (hd2) (fun hHeld => ?_)
          clear hK K
          refine norm_ (a' := ?_) ?_ ?_
          rotate_left
          · show Act.put _ (some 38) _ = _
            simp only [Act.put, List.setIfInBounds_toArray, List.set_cons_zero, List.set_cons_succ, i64_w, i32_w]
            rfl
          refine pure_ (i := 10) (N := some 40) (v := ?_) (a' := ?_) #[true, true, true, true, true, true, true, true, true, true, true, false, false, false, false, false] rfl rfl (by kernel_rfl) (fun _ _ _ h => h) (Or.inl ⟨by rfl, ?_⟩) ?_ ?_
          rotate_left
          · intro w'
            go_simp
            with_reducible rfl
          rotate_left
          · simp only [Act.put, List.setIfInBounds_toArray, List.set_cons_zero, List.set_cons_succ, i64_w, i32_w]
            rfl
          refine one_ (i := 11) (N := some 41) #[true, true, true, true, true, true, true, true, true, true, true, true, false, false, false, false] rfl rfl (by kernel_rfl) (by decide) (fun K hK => ?_)
          refine value_ (w1 := ?_) (v := ?_) (by rfl) rfl ?_ ?_
          rotate_left 2
          · go_simp
            constructor
            · rfl
            · rfl
          have hl_ := (HS.out.below (below_alloc (Below.refl _ _) (.cells ([.int .i64 0, .string (sq_join name (⟨#[32]⟩ : ByteArray)), .string (sq_join ws (⟨#[]⟩ : ByteArray)), .string hb] : List Value).toArray 27))).hd.out1.1
          refine hK.out _ _ (hl_) (fun hHeld => ?_)
          clear hK K
          refine norm_ (a' := ?_) ?_ ?_
          rotate_left
          · show Act.put _ (some 41) _ = _
            simp only [Act.put, List.setIfInBounds_toArray, List.set_cons_zero, List.set_cons_succ, i64_w, i32_w]
            rfl
          refine last_ (i := 12) (N := some 42) #[true, true, true, true, true, true, true, true, true, true, true, true, true, false, false, false] rfl rfl (by kernel_rfl) (by decide) (fun K hK => ?_)
          refine Kd.R_append_step k27 (w0 := _) w0.heap.size (by rfl) (.tmp 34) (.tmp 41) 23 27 (.agg #[(.int .i64 0), (.string ⟨#[]⟩), (.string ⟨#[]⟩), (.string ⟨#[]⟩)]) 56 rfl Try.underlying23 info27 rfl (by decide) (by decide) v out (⟨0, sq_join name (⟨#[32]⟩ : ByteArray), sq_join ws (⟨#[]⟩ : ByteArray), hb⟩ : S27) [.int .i64 0, .string (sq_join name (⟨#[32]⟩ : ByteArray)), .string (sq_join ws (⟨#[]⟩ : ByteArray)), .string hb] (fun k => k ≠ g) (fun _ => False) rfl rfl (k27_mkM _ _ _ (⟨0, sq_join name (⟨#[32]⟩ : ByteArray), sq_join ws (⟨#[]⟩ : ByteArray), hb⟩ : S27)) (fun _ hk => hk.elim) ?_ HS.out.row (Below.refl _ _) ?_ ?_ ?_
          · exact fun k hk e => absurd HS.out.hd.lt (by omega)
          · have := HS.out.hd.lt; have := HS.out.hd.ge; omega
          · omega
          intro v1 wa hra hba hga hoa
          have HA := Aside0.mk (HS.out.appended hra hga)
          have he1 := HA.out.1.out1.1
          have he2 := HA.out.1.out1.2
          replace HS := Aside0.mk HA.out.2
          obtain ⟨Aq, cq, rfl⟩ := Kd.R_slice hra
          clear hra hba hga hoa HA
          refine hK.out _ _ ?_
          clear hK K
          refine norm_ (a' := ?_) ?_ ?_
          rotate_left
          · show Act.put _ (some 42) _ = _
            simp only [Act.put, List.setIfInBounds_toArray, List.set_cons_zero, List.set_cons_succ, i64_w, i32_w]
            rfl
          refine pure_ (i := 13) (N := some 43) (v := ?_) (a' := ?_) #[true, true, true, true, true, true, true, true, true, true, true, true, true, true, false, false] rfl rfl (by kernel_rfl) (fun _ _ _ h => h) (Or.inl ⟨by rfl, ?_⟩) ?_ ?_
          rotate_left
          · intro w'
            go_simp
            with_reducible rfl
          rotate_left
          · simp only [Act.put, List.setIfInBounds_toArray, List.set_cons_zero, List.set_cons_succ, i64_w, i32_w]
            rfl
          refine pure_ (i := 14) (N := some 44) (v := ?_) (a' := ?_) #[true, true, true, true, true, true, true, true, true, true, true, true, true, true, true, false] rfl rfl (by kernel_rfl) (fun _ _ _ h => h) (Or.inl ⟨by rfl, ?_⟩) ?_ ?_
          rotate_left
          · intro w'
            go_simp
            with_reducible rfl
          rotate_left
          · simp only [Act.put, List.setIfInBounds_toArray, List.set_cons_zero, List.set_cons_succ, i64_w, i32_w]
            rfl
          refine last_ (i := 15) (N := none) #[true, true, true, true, true, true, true, true, true, true, true, true, true, true, true, true] rfl rfl (by kernel_rfl) (by decide) (fun K hK => ?_)
          refine skip_ (w1 := ?_) (by rfl) rfl ?_ ?_
          rotate_left
          · go_simp
            rfl
          refine hK.out _ _ ?_
          clear hK K
          refine done_ (by kernel_rfl) ?_
          try go_wp2
          go_ret
          rw [← HRR.out]
          exact ⟨_, rfl, by have q := HS.out; simp only [List.length_append, List.length_singleton] at q; exact q⟩
end Go.Proofs.Ytcjepgofcojeoaa.P
