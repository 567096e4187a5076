-- Written by a program of this session (wip/tools/mk.sh) for this claim: it runs the kit's print with contracts of our own. Lean checks it.
import Derived.Test.YtmdhggiffdkmfaaPx0
import Derived.Test.YtmdhggiffdkmfaaZStr
import Derived.Test.YtmdhggiffdkmfaaPx6
namespace Go.Proofs.Ytmdhggiffdkmfaa.P
open Go.RowKit Go.Proofs.YtmdhggiffdkmfaaW.PrintWords Go.Proofs.YtmdhggiffdkmfaaW.PrintLast Go.Proofs.YtmdhggiffdkmfaaW.PrintMore
attribute [-simp] Int.tmod_tmod_of_dvd
attribute [local go_sem] max2_int min2_int max_two min_two max_three min_three max_four min_four   -- for this text's walks alone
set_option linter.unusedVariables false
set_option linter.unusedSimpArgs false

/-! ### letterboxlaw18_WireCuts: function 3 -/
/-- how many bytes the next piece has -/
def wc_n (b : List Int) (at_ c : Int) : Int := if wrap64 (Int.tmod c 16) > wrap64 ((b.length : Int) - at_) then wrap64 ((b.length : Int) - at_) else wrap64 (Int.tmod c 16)
/-- pieces fed one behind the other: true, or nothing is said -/
def wc_l0 (K : Nat) (b cuts : List Int) (want : ByteArray) (left : Nat) : Nat → List Int → Int → ByteArray → Int → Int → Option Bool
  | 0, _, _, _, _, _ => none
  | d + 1, bg, ag, got, at_, i =>
    if i < (cuts.length : Int) then
      (if 0 ≤ i ∧ 0 ≤ at_ ∧ at_ ≤ wrap64 (at_ + wc_n b at_ (rd cuts i)) ∧ wrap64 (at_ + wc_n b at_ (rd cuts i)) ≤ (b.length : Int) then
        (fd_f K bg ag ((b.take (wrap64 (at_ + wc_n b at_ (rd cuts i))).toNat).drop at_.toNat)).bind fun t =>
          (letterboxlaw18_commands.f K t.1).bind fun c =>
            if c.2 = true ∧ got.size + c.1.size ≤ 9223372036854775807 then wc_l0 K b cuts want left d t.2.1 t.2.2 (got ++ c.1) (wrap64 (at_ + wc_n b at_ (rd cuts i))) (wrap64 (i + 1)) else none
      else none)
    else if 0 ≤ at_ ∧ at_ ≤ (b.length : Int) then
      (fd_f K bg ag (b.drop at_.toNat)).bind fun t =>
        (letterboxlaw18_commands.f K t.1).bind fun c =>
          if c.2 = true ∧ got.size + c.1.size ≤ 9223372036854775807 ∧ (got ++ c.1).toList = want.toList ∧ left = t.2.1.length then some true else none
    else none
def wc_f (K : Nat) (b cuts : List Int) : Option Bool :=
  if (b.length : Int) > 400 ∨ (cuts.length : Int) > 60 then some true
  else (fd_f K [] 0 b).bind fun t => (letterboxlaw18_commands.f K t.1).bind fun c =>
    if c.2 = false then some true else wc_l0 K b cuts c.1 t.2.1.length K [] 0 (⟨#[]⟩ : ByteArray) 0 0
/-- what one framer takes leaves the elder one as it was -/
theorem wc_two {w W : World} {gf gg : Nat} {vf vg vg2 ve2 : Value} {bf bg bg2 : List Int} {af ag ag2 : Int} {evs2 : List S33} (hgg : gf < gg) (hfb : w.heap[gf]? = some (.cells #[vf, .int .i64 af] 25 (0, 0))) (hfr : Kd.R (Kd.int .u8) 5 w gf (fun k => k ≠ gf ∧ k < gg) vf bf)
    (hG : Fr w gg gg vg bg ag) (I : FdI w W gg gg vg vg2 ve2 bg2 ag2 evs2) : W.heap[gf]? = some (.cells #[vf, .int .i64 af] 25 (0, 0)) ∧ Kd.R (Kd.int .u8) 5 W gf (fun k => k ≠ gf ∧ k < gg) vf bf := by
  have hk : ∀ k, k < gg → k < w.heap.size → W.heap[k]? = w.heap[k]? := fun k h1 h2 => I.keep.2 k h2 (by omega) (fun e => by have := Kd.R_base hG.row k e.symm; omega)
  exact ⟨(hk gf hgg (blk_lt hfb)).trans hfb, Kd.R_step hfr (fun k ho hlt => hk k ho.2 hlt)⟩
set_option maxHeartbeats 800000 in
set_option maxRecDepth 100000 in
theorem wc_walk (K : Nat) (A0 : Option Addr) (c0 : Nat) (b : List Int) (A1 : Option Addr) (c1 : Nat) (cuts : List Int) (w : World) (hb : Kd.C (Kd.int .u8) w A0 b.length b) (hc0 : b.length ≤ c0) (hcu : Kd.C (Kd.int .u8) w A1 cuts.length cuts) (hc1 : cuts.length ≤ c1)
    (h : wc_f K b cuts = some true) : Calls Try.prog 3 #[.slice A0 b.length c0, .slice A1 cuts.length c1] w fun e w' => e = .returned (.bool true) ∧ Below w.heap.size w w' := by
  unfold wc_f at h
  by_cases hz : (b.length : Int) > 400 ∨ (cuts.length : Int) > 60
  · by_cases h1 : (b.length : Int) > 400
    · have hb1 : decide ((b.length : Int) > 400) = true := decide_eq_true h1
      have hb1' : decide (400 < (b.length : Int)) = true := decide_eq_true h1
      clear h hz h1
      go_enter Try.func3, Try.ntmps3
      go_wp2_with (go_at_call 7; refine (fr_awake _).mono ?_; rintro e w1 ⟨rfl, hB1⟩; have HB1 := Aside0.mk hB1; clear hB1)
      go_ret
      exact ⟨rfl, HB1.out⟩
    · have hb1 : decide ((b.length : Int) > 400) = false := decide_eq_false h1
      have h2 := hz.resolve_left h1
      have hb2 : decide ((cuts.length : Int) > 60) = true := decide_eq_true h2
      clear h hz h1 h2
      go_enter Try.func3, Try.ntmps3
      go_wp2_with (go_at_call 7; refine (fr_awake _).mono ?_; rintro e w1 ⟨rfl, hB1⟩; have HB1 := Aside0.mk hB1; clear hB1)
      go_ret
      exact ⟨rfl, HB1.out⟩
  rw [if_neg hz] at h
  have hb1 : decide ((b.length : Int) > 400) = false := decide_eq_false (fun h => hz (.inl h))
  have hb2 : decide ((cuts.length : Int) > 60) = false := decide_eq_false (fun h => hz (.inr h))
  have HZ := Aside0.mk hz
  clear hz
  cases hE : fd_f K [] 0 b with
  | none => rw [hE] at h; exact absurd h (by simp)
  | some t =>
  obtain ⟨evs, bf, af⟩ := t
  rw [hE, Option.bind_some] at h
  cases hM : letterboxlaw18_commands.f K evs with
  | none => rw [hM] at h; exact absurd h (by simp)
  | some t =>
  obtain ⟨want, ok⟩ := t
  rw [hM, Option.bind_some] at h
  have HE := Aside0.mk hE
  have HM := Aside0.mk hM
  have HCb := Aside0.mk hb
  have HCc := Aside0.mk hcu
  clear hE hM hb hcu
  have H := Aside0.mk h
  clear h
  go_enter Try.func3, Try.ntmps3
  go_wp2_with (go_at_call 7; refine (fr_awake _).mono ?_; rintro e w1 ⟨rfl, hB1⟩; have HB1 := Aside0.mk hB1; clear hB1)
  generalize hW0 : w1.alloc (Obj.cells #[Value.slice none 0 0, Value.int IntKind.i64 0] 25) = W0
  have F0 : Fr W0 w1.heap.size w1.heap.size (.slice none 0 0) [] 0 := ⟨by subst hW0; exact heap_alloc_new _ _, Kd.R_nil _ _ _ _ _⟩
  have B0 : Below w.heap.size w W0 := by subst hW0; exact HB1.out.trans (below_alloc (Below.refl _ _) _ |>.mono HB1.out.size)
  have s1 := HB1.out.size
  clear hW0
  generalize w1.heap.size = gf at *
  refine (fr_Feed K gf (.slice none 0 0) [] 0 A0 c0 b evs bf af W0 gf F0 (Nat.le_of_lt (blk_lt F0.blk)) (Kd.C_below HCb.out B0) HE.out).mono ?_
  rintro e w2 ⟨vf, ve, rfl, I⟩
  obtain ⟨Ae, ce, rfl⟩ := Kd.R_slice I.ev
  have hev := Kd.R_reads' I.ev
  have HI := Aside0.mk I
  have HB2 := Aside0.mk (B0.trans (I.bel w.heap.size (by omega) (by omega) B0.size))
  clear F0 B0 HB1 I
  have HEV := Aside0.mk hev
  clear hev
  cases ok with
  | false =>
    go_wp2_with (go_at_call 8; refine (letterboxlaw18_commands.calls K Ae ce evs want false _ HEV.out.2.2 HEV.out.2.1 HM.out).mono ?_; rintro e w3 ⟨rfl, ⟨nd, rfl⟩⟩)
    go_ret
    exact ⟨rfl, pw_below_drewN HB2.out nd⟩
  | true =>
    rw [if_neg (by decide)] at H
    go_wp2_with (go_at_call 8; refine (letterboxlaw18_commands.calls K Ae ce evs want true _ HEV.out.2.2 HEV.out.2.1 HM.out).mono ?_; rintro e w3 ⟨rfl, ⟨nd, rfl⟩⟩)
    generalize hW3 : (w2.drewN nd).alloc (Obj.cells #[Value.slice none 0 0, Value.int IntKind.i64 0] 25) = W3
    have b23 : Below w2.heap.size w2 W3 := by subst hW3; exact below_alloc (pw_below_drewN (Below.refl _ _) nd) _
    have HG0 : Aside0 (Fr W3 w2.heap.size w2.heap.size (.slice none 0 0) [] 0) := ⟨⟨by subst hW3; exact heap_alloc_new _ _, Kd.R_nil _ _ _ _ _⟩⟩
    have hgg := blk_lt HI.out.fr.blk
    have HFB0 := Aside0.mk ((b23.block gf hgg).trans HI.out.fr.blk)
    have HFR0 := Aside0.mk (Kd.R_below (Kd.R_mono (Kd.R_bound HI.out.fr.row) (ok' := fun k => k ≠ gf ∧ k < w2.heap.size) (fun k hk => ⟨hk.1, hk.2.2.1⟩)) b23)
    have HB30 := Aside0.mk (HB2.out.trans (b23.mono HB2.out.size))
    have hw2 := HB2.out.size
    clear hW3 b23 HI HB2 HEV HM HE
    generalize w2.heap.size = gg at *
    go_loopg [10, 11, 12] K (fun gk v10 v11 v12 w' => ∃ (vg : Value) (bg : List Int) (ag : Int) (got : ByteArray) (a i : Int), v10 = .string got ∧ v11 = .int .i64 a ∧ v12 = .int .i64 i ∧ Aside0 (wc_l0 K b cuts want bf.length gk bg ag got a i = some true) ∧ Aside0 (w'.heap[gf]? = some (.cells #[vf, .int .i64 af] 25 (0, 0))) ∧ Aside0 (Kd.R (Kd.int .u8) 5 w' gf (fun k => k ≠ gf ∧ k < gg) vf bf) ∧ Aside0 (Fr w' gg gg vg bg ag) ∧ Aside0 (Below w.heap.size w w'))
    case atStart => exact ⟨_, _, _, _, _, _, rfl, rfl, rfl, H, HFB0, HFR0, HG0, HB30⟩
    case round =>
      clear H HFB0 HFR0 HG0 HB30
      obtain ⟨vg, bg, ag, got, a, i, rfl, rfl, rfl, HA, HFB, HFR, HG, HB⟩ := hrel
      cases gk with
      | zero => exact absurd HA.out (by simp [wc_l0])
      | succ d =>
      have H := HA.out
      clear HA
      simp only [wc_l0] at H
      by_cases hi : i < (cuts.length : Int)
      · rw [if_pos hi] at H
        have hib : decide (i < (cuts.length : Int)) = true := decide_eq_true hi
        by_cases hg : 0 ≤ i ∧ 0 ≤ a ∧ a ≤ wrap64 (a + wc_n b a (rd cuts i)) ∧ wrap64 (a + wc_n b a (rd cuts i)) ≤ (b.length : Int)
        case neg => rw [if_neg hg] at H; exact absurd H (by simp)
        rw [if_pos hg] at H
        obtain ⟨ad, e1, hx⟩ := Kd.at_int (Kd.C_below HCc.out HB.out) i hg.1 hi
        cases e1
        have p1 : 0 ≤ i := hg.1
        by_cases hq : wrap64 (Int.tmod (rd cuts i) 16) > wrap64 ((b.length : Int) - a)
        · have e : wc_n b a (rd cuts i) = wrap64 ((b.length : Int) - a) := if_pos hq
          rw [e] at H hg
          have hqb : decide (wrap64 (Int.tmod (rd cuts i) 16) > wrap64 ((b.length : Int) - a)) = true := decide_eq_true hq
          clear hq
          obtain ⟨hg0, hg1, hg2, hg3⟩ := hg
          obtain ⟨i0, hi0, _, hsz, _⟩ := info_parts info5
          have hcut := cut_mid (P := Try.prog) 22 5 .i64 .i64 Try.underlying22 hi0 1 hsz A0 b.length c0 a (wrap64 (a + wrap64 ((b.length : Int) - a))) hg1 hg2 hg3 hc0
          obtain ⟨D, hD⟩ : ∃ D, D = (b.take (wrap64 (a + wrap64 ((b.length : Int) - a))).toNat).drop a.toNat := ⟨_, rfl⟩
          have hDl : D.length = (wrap64 (a + wrap64 ((b.length : Int) - a))).toNat - a.toNat := by rw [hD, List.length_drop, List.length_take]; omega
          rw [← hDl] at hcut
          obtain ⟨A5, hA5⟩ : ∃ A5, A5 = (if c0 = a.toNat then A0 else A0.map (·.add (a.toNat * 1))) := ⟨_, rfl⟩
          rw [← hA5] at hcut
          have HD := Aside0.mk (show ∀ W, Kd.C (Kd.int .u8) W A0 b.length b → Kd.C (Kd.int .u8) W A5 D.length D from fun W h => by rw [hD, hA5]; exact Kd.C_mid h (by omega) (by omega) hc0)
          rw [← hD] at H
          cases hE2 : fd_f K bg ag D with
          | none => rw [hE2] at H; exact absurd H (by simp)
          | some t =>
          obtain ⟨evs2, bg2, ag2⟩ := t
          rw [hE2, Option.bind_some] at H
          cases hM2 : letterboxlaw18_commands.f K evs2 with
          | none => simp only [hM2, Option.bind_none] at H; exact absurd H (by simp)
          | some t =>
          obtain ⟨s, fine⟩ := t
          simp only [hM2, Option.bind_some] at H
          by_cases hf : fine = true ∧ got.size + s.size ≤ 9223372036854775807
          case neg => rw [if_neg hf] at H; exact absurd H (by simp)
          rw [if_pos hf] at H
          obtain ⟨rfl, hsz2⟩ := hf
          have HE2 := Aside0.mk hE2
          have HM2 := Aside0.mk hM2
          have H' := Aside0.mk H
          have t1 : (9223372036854775807 < got.size + s.size) = False := eq_false (by omega)
          clear H hE2 hM2 hD hDl hA5 hg0 hg1 hg2 hg3 e hsz2
          go_wp2_with fail
          refine (fr_Feed K gg vg bg ag A5 _ D evs2 bg2 ag2 wr gg HG.out (Nat.le_of_lt (blk_lt HG.out.blk)) (HD.out _ (Kd.C_below HCb.out HB.out)) HE2.out).mono ?_
          rintro e w4 ⟨vg2, ve2, rfl, I⟩
          obtain ⟨Ae2, ce2, rfl⟩ := Kd.R_slice I.ev
          have hev2 := Kd.R_reads' I.ev
          have T := wc_two hgg HFB.out HFR.out HG.out I
          have HI2 := Aside0.mk I.fr
          have HB4 := Aside0.mk (HB.out.trans (I.bel w.heap.size (by omega) (by omega) HB.out.size))
          have HT := Aside0.mk T
          clear I T HG HFB HFR
          go_wp2_with (go_at_call 8; refine (letterboxlaw18_commands.calls K Ae2 ce2 evs2 s true _ hev2.2.2 hev2.2.1 HM2.out).mono ?_; rintro e w5 ⟨rfl, ⟨nd2, rfl⟩⟩)
          go_roundg d
          case measure => omega
          case rel => exact ⟨vg2, bg2, ag2, _, _, _, rfl, rfl, rfl, H', ⟨HT.out.1⟩, ⟨Kd.R_drewN HT.out.2 nd2⟩, ⟨⟨HI2.out.blk, Kd.R_drewN HI2.out.row nd2⟩⟩, ⟨pw_below_drewN HB4.out nd2⟩⟩
        · have e : wc_n b a (rd cuts i) = wrap64 (Int.tmod (rd cuts i) 16) := if_neg hq
          rw [e] at H hg
          have hqb : decide (wrap64 (Int.tmod (rd cuts i) 16) > wrap64 ((b.length : Int) - a)) = false := decide_eq_false hq
          clear hq
          obtain ⟨hg0, hg1, hg2, hg3⟩ := hg
          obtain ⟨i0, hi0, _, hsz, _⟩ := info_parts info5
          have hcut := cut_mid (P := Try.prog) 22 5 .i64 .i64 Try.underlying22 hi0 1 hsz A0 b.length c0 a (wrap64 (a + wrap64 (Int.tmod (rd cuts i) 16))) hg1 hg2 hg3 hc0
          obtain ⟨D, hD⟩ : ∃ D, D = (b.take (wrap64 (a + wrap64 (Int.tmod (rd cuts i) 16))).toNat).drop a.toNat := ⟨_, rfl⟩
          have hDl : D.length = (wrap64 (a + wrap64 (Int.tmod (rd cuts i) 16))).toNat - a.toNat := by rw [hD, List.length_drop, List.length_take]; omega
          rw [← hDl] at hcut
          obtain ⟨A5, hA5⟩ : ∃ A5, A5 = (if c0 = a.toNat then A0 else A0.map (·.add (a.toNat * 1))) := ⟨_, rfl⟩
          rw [← hA5] at hcut
          have HD := Aside0.mk (show ∀ W, Kd.C (Kd.int .u8) W A0 b.length b → Kd.C (Kd.int .u8) W A5 D.length D from fun W h => by rw [hD, hA5]; exact Kd.C_mid h (by omega) (by omega) hc0)
          rw [← hD] at H
          cases hE2 : fd_f K bg ag D with
          | none => rw [hE2] at H; exact absurd H (by simp)
          | some t =>
          obtain ⟨evs2, bg2, ag2⟩ := t
          rw [hE2, Option.bind_some] at H
          cases hM2 : letterboxlaw18_commands.f K evs2 with
          | none => simp only [hM2, Option.bind_none] at H; exact absurd H (by simp)
          | some t =>
          obtain ⟨s, fine⟩ := t
          simp only [hM2, Option.bind_some] at H
          by_cases hf : fine = true ∧ got.size + s.size ≤ 9223372036854775807
          case neg => rw [if_neg hf] at H; exact absurd H (by simp)
          rw [if_pos hf] at H
          obtain ⟨rfl, hsz2⟩ := hf
          have HE2 := Aside0.mk hE2
          have HM2 := Aside0.mk hM2
          have H' := Aside0.mk H
          have t1 : (9223372036854775807 < got.size + s.size) = False := eq_false (by omega)
          clear H hE2 hM2 hD hDl hA5 hg0 hg1 hg2 hg3 e hsz2
          go_wp2_with fail
          refine (fr_Feed K gg vg bg ag A5 _ D evs2 bg2 ag2 wr gg HG.out (Nat.le_of_lt (blk_lt HG.out.blk)) (HD.out _ (Kd.C_below HCb.out HB.out)) HE2.out).mono ?_
          rintro e w4 ⟨vg2, ve2, rfl, I⟩
          obtain ⟨Ae2, ce2, rfl⟩ := Kd.R_slice I.ev
          have hev2 := Kd.R_reads' I.ev
          have T := wc_two hgg HFB.out HFR.out HG.out I
          have HI2 := Aside0.mk I.fr
          have HB4 := Aside0.mk (HB.out.trans (I.bel w.heap.size (by omega) (by omega) HB.out.size))
          have HT := Aside0.mk T
          clear I T HG HFB HFR
          go_wp2_with (go_at_call 8; refine (letterboxlaw18_commands.calls K Ae2 ce2 evs2 s true _ hev2.2.2 hev2.2.1 HM2.out).mono ?_; rintro e w5 ⟨rfl, ⟨nd2, rfl⟩⟩)
          go_roundg d
          case measure => omega
          case rel => exact ⟨vg2, bg2, ag2, _, _, _, rfl, rfl, rfl, H', ⟨HT.out.1⟩, ⟨Kd.R_drewN HT.out.2 nd2⟩, ⟨⟨HI2.out.blk, Kd.R_drewN HI2.out.row nd2⟩⟩, ⟨pw_below_drewN HB4.out nd2⟩⟩
      · rw [if_neg hi] at H
        have hib : decide (i < (cuts.length : Int)) = false := decide_eq_false hi
        by_cases ha : 0 ≤ a ∧ a ≤ (b.length : Int)
        case neg => rw [if_neg ha] at H; exact absurd H (by simp)
        rw [if_pos ha] at H
        obtain ⟨i0, hi0, _, hsz, _⟩ := info_parts info5
        have hcut := cut_from (P := Try.prog) 22 5 .i64 Try.underlying22 hi0 1 hsz A0 b.length c0 a ha.1 ha.2
        obtain ⟨D, hD⟩ : ∃ D, D = b.drop a.toNat := ⟨_, rfl⟩
        have hDl : D.length = b.length - a.toNat := by rw [hD, List.length_drop]
        rw [← hDl] at hcut
        obtain ⟨A5, hA5⟩ : ∃ A5, A5 = (if c0 = a.toNat then A0 else A0.map (·.add (a.toNat * 1))) := ⟨_, rfl⟩
        rw [← hA5] at hcut
        have HD := Aside0.mk (show ∀ W, Kd.C (Kd.int .u8) W A0 b.length b → Kd.C (Kd.int .u8) W A5 D.length D from fun W h => by rw [hD, hA5]; exact Kd.C_drop h (by omega) hc0)
        rw [← hD] at H
        cases hE2 : fd_f K bg ag D with
        | none => rw [hE2] at H; exact absurd H (by simp)
        | some t =>
        obtain ⟨evs2, bg2, ag2⟩ := t
        rw [hE2, Option.bind_some] at H
        cases hM2 : letterboxlaw18_commands.f K evs2 with
        | none => simp only [hM2, Option.bind_none] at H; exact absurd H (by simp)
        | some t =>
        obtain ⟨s, fine⟩ := t
        simp only [hM2, Option.bind_some] at H
        by_cases hf : fine = true ∧ got.size + s.size ≤ 9223372036854775807 ∧ (got ++ s).toList = want.toList ∧ bf.length = bg2.length
        case neg => rw [if_neg hf] at H; exact absurd H (by simp)
        obtain ⟨rfl, hsz2, heq, hleft⟩ := hf
        have HE2 := Aside0.mk hE2
        have HM2 := Aside0.mk hM2
        have t1 : (9223372036854775807 < got.size + s.size) = False := eq_false (by omega)
        have t2 : ((got ++ s).toList == want.toList) = true := beq_iff_eq.mpr heq
        have t3 : ((bf.length : Int) == (bg2.length : Int)) = true := beq_iff_eq.mpr (by rw [hleft])
        clear H hE2 hM2 hD hDl hA5 ha hsz2 heq hleft
        go_wp2_with fail
        refine (fr_Feed K gg vg bg ag A5 _ D evs2 bg2 ag2 wr gg HG.out (Nat.le_of_lt (blk_lt HG.out.blk)) (HD.out _ (Kd.C_below HCb.out HB.out)) HE2.out).mono ?_
        rintro e w4 ⟨vg2, ve2, rfl, I⟩
        obtain ⟨Ae2, ce2, rfl⟩ := Kd.R_slice I.ev
        have hev2 := Kd.R_reads' I.ev
        have T := wc_two hgg HFB.out HFR.out HG.out I
        have HB4 := Aside0.mk (HB.out.trans (I.bel w.heap.size (by omega) (by omega) HB.out.size))
        have HL1 := Aside0.mk (fun nd : Nat => fr_Left gf vf bf af (w4.drewN nd) gf ⟨T.1, Kd.R_mono (Kd.R_drewN T.2 nd) (fun k hk => hk.1)⟩)
        have HL2 := Aside0.mk (fun nd : Nat => fr_Left gg vg2 bg2 ag2 (w4.drewN nd) gg ⟨I.fr.blk, Kd.R_drewN I.fr.row nd⟩)
        clear I T HG HFB HFR
        go_wp2_with (first | (go_at_call 8; refine (letterboxlaw18_commands.calls K Ae2 ce2 evs2 s true _ hev2.2.2 hev2.2.1 HM2.out).mono ?_; rintro e w5 ⟨rfl, ⟨nd2, rfl⟩⟩) | (go_at_call 10; (with_reducible refine (HL1.out _).mono ?_); rintro e w6 ⟨rfl, rfl⟩) | (go_at_call 10; (with_reducible refine (HL2.out _).mono ?_); rintro e w7 ⟨rfl, rfl⟩))
        go_ret
        exact ⟨rfl, pw_below_drewN HB4.out _⟩
def letterboxlaw18_WireCuts.f (k : Nat) (l0 : List Int) (l1 : List Int) : Option Bool := wc_f k l0 l1
def letterboxlaw18_WireCuts.Pure : Prop := ∀ (l0 : List Int) (l1 : List Int), l0.length ≤ maxLen → l0.length * 1 ≤ 140737488351232 → (∀ x ∈ l0, (Lit.int .u8 x).wf = true) → l1.length ≤ maxLen → l1.length * 1 ≤ 140737488351232 → (∀ x ∈ l1, (Lit.int .u8 x).wf = true) → ∃ k, letterboxlaw18_WireCuts.f k l0 l1 = some true
theorem letterboxlaw18_WireCuts.walk (P : letterboxlaw18_WireCuts.Pure) (a0 : Option Addr) (len0 cap0 : Nat) (z0 : List Int) (a1 : Option Addr) (len1 cap1 : Nat) (z1 : List Int) (w : World) (w0 : (a0 = none ∧ len0 = 0 ∧ cap0 = 0 ∧ z0 = []) ∨ ∃ x, a0 = some x ∧ len0 ≤ cap0 ∧ cap0 ≤ maxLen ∧ z0.length = cap0 ∧ (∀ i, i < z0.length → w.cell? (x.add i) = some (.int .u8 (z0.getD i 0))) ∧ ∀ n ∈ z0, (Lit.int .u8 n).wf = true) (y0 : len0 * 1 ≤ 140737488351232) (w1 : (a1 = none ∧ len1 = 0 ∧ cap1 = 0 ∧ z1 = []) ∨ ∃ x, a1 = some x ∧ len1 ≤ cap1 ∧ cap1 ≤ maxLen ∧ z1.length = cap1 ∧ (∀ i, i < z1.length → w.cell? (x.add i) = some (.int .u8 (z1.getD i 0))) ∧ ∀ n ∈ z1, (Lit.int .u8 n).wf = true) (y1 : len1 * 1 ≤ 140737488351232) :
    Calls Try.prog 3 #[.slice a0 len0 cap0, .slice a1 len1 cap1] w fun e w' => e = .returned (.bool true) ∧ Below w.heap.size w w' := by
  obtain ⟨l0, rfl, hr0, hm0, hw0, hc0⟩ := ReadsInt.ofRowC w0
  obtain ⟨l1, rfl, hr1, hm1, hw1, hc1⟩ := ReadsInt.ofRowC w1
  obtain ⟨k, h⟩ := P l0 l1 hm0 y0 hw0 hm1 y1 hw1
  exact wc_walk k _ _ l0 _ _ l1 w (Kd.C_of_reads (d := (0 : Int)) (h1 := fun _ => rfl) hr0) hc0 (Kd.C_of_reads (d := (0 : Int)) (h1 := fun _ => rfl) hr1) hc1 h

/-! ### letterboxlaw18_digits: function 11 -/
def letterboxlaw18_digits.f (a0 : Int) : Option (ByteArray) := if a0 < 10 then (if 0 ≤ a0 then (if a0 ≤ (wrap64 (a0 + 1)) then (if (wrap64 (a0 + 1)) ≤ 10 then (some ((⟨#[48, 49, 50, 51, 52, 53, 54, 55, 56, 57]⟩ : ByteArray).extract (a0 : Int).toNat ((wrap64 (a0 + 1)) : Int).toNat)) else (none)) else (none)) else (none)) else (if 0 ≤ (wrap64 (Int.tdiv a0 10)) then (if (wrap64 (Int.tdiv a0 10)) ≤ (wrap64 ((wrap64 (Int.tdiv a0 10)) + 1)) then (if (wrap64 ((wrap64 (Int.tdiv a0 10)) + 1)) ≤ 10 then (if 0 ≤ (Int.tmod a0 10) then (if (Int.tmod a0 10) ≤ (wrap64 ((Int.tmod a0 10) + 1)) then (if (wrap64 ((Int.tmod a0 10) + 1)) ≤ 10 then (if ((⟨#[48, 49, 50, 51, 52, 53, 54, 55, 56, 57]⟩ : ByteArray).extract ((wrap64 (Int.tdiv a0 10)) : Int).toNat ((wrap64 ((wrap64 (Int.tdiv a0 10)) + 1)) : Int).toNat).size + ((⟨#[48, 49, 50, 51, 52, 53, 54, 55, 56, 57]⟩ : ByteArray).extract ((Int.tmod a0 10) : Int).toNat ((wrap64 ((Int.tmod a0 10) + 1)) : Int).toNat).size ≤ 9223372036854775807 then (some (((⟨#[48, 49, 50, 51, 52, 53, 54, 55, 56, 57]⟩ : ByteArray).extract ((wrap64 (Int.tdiv a0 10)) : Int).toNat ((wrap64 ((wrap64 (Int.tdiv a0 10)) + 1)) : Int).toNat) ++ ((⟨#[48, 49, 50, 51, 52, 53, 54, 55, 56, 57]⟩ : ByteArray).extract ((Int.tmod a0 10) : Int).toNat ((wrap64 ((Int.tmod a0 10) + 1)) : Int).toNat))) else (none)) else (none)) else (none)) else (none)) else (none)) else (none)) else (none))
set_option maxHeartbeats 8000000 in
set_option maxRecDepth 100000 in
theorem letterboxlaw18_digits.calls (a0 : Int) (r : ByteArray) (w : World) (h : letterboxlaw18_digits.f a0 = some r) :
    Calls Try.prog 11 #[.int .i64 a0] w fun e w' => e = .returned (.string r) ∧ Drawn0 w w' := by
  have H : (if a0 < 10 then (if 0 ≤ a0 then (if a0 ≤ (wrap64 (a0 + 1)) then (if (wrap64 (a0 + 1)) ≤ 10 then (some ((⟨#[48, 49, 50, 51, 52, 53, 54, 55, 56, 57]⟩ : ByteArray).extract (a0 : Int).toNat ((wrap64 (a0 + 1)) : Int).toNat)) else (none)) else (none)) else (none)) else (if 0 ≤ (wrap64 (Int.tdiv a0 10)) then (if (wrap64 (Int.tdiv a0 10)) ≤ (wrap64 ((wrap64 (Int.tdiv a0 10)) + 1)) then (if (wrap64 ((wrap64 (Int.tdiv a0 10)) + 1)) ≤ 10 then (if 0 ≤ (Int.tmod a0 10) then (if (Int.tmod a0 10) ≤ (wrap64 ((Int.tmod a0 10) + 1)) then (if (wrap64 ((Int.tmod a0 10) + 1)) ≤ 10 then (if ((⟨#[48, 49, 50, 51, 52, 53, 54, 55, 56, 57]⟩ : ByteArray).extract ((wrap64 (Int.tdiv a0 10)) : Int).toNat ((wrap64 ((wrap64 (Int.tdiv a0 10)) + 1)) : Int).toNat).size + ((⟨#[48, 49, 50, 51, 52, 53, 54, 55, 56, 57]⟩ : ByteArray).extract ((Int.tmod a0 10) : Int).toNat ((wrap64 ((Int.tmod a0 10) + 1)) : Int).toNat).size ≤ 9223372036854775807 then (some (((⟨#[48, 49, 50, 51, 52, 53, 54, 55, 56, 57]⟩ : ByteArray).extract ((wrap64 (Int.tdiv a0 10)) : Int).toNat ((wrap64 ((wrap64 (Int.tdiv a0 10)) + 1)) : Int).toNat) ++ ((⟨#[48, 49, 50, 51, 52, 53, 54, 55, 56, 57]⟩ : ByteArray).extract ((Int.tmod a0 10) : Int).toNat ((wrap64 ((Int.tmod a0 10) + 1)) : Int).toNat))) else (none)) else (none)) else (none)) else (none)) else (none)) else (none)) else (none))) = some r := h
  clear h
  by_cases c2 : a0 < 10
  · rw [if_pos c2] at H
    have c2b0 : decide (a0 < 10) = true := decide_eq_true c2
    clear c2
    by_cases c3 : 0 ≤ a0
    · rw [if_pos c3] at H
      have c3b0 := eq_true c3
      have c3b1 : decide (0 ≤ a0) = true := decide_eq_true c3
      clear c3
      by_cases c4 : a0 ≤ (wrap64 (a0 + 1))
      · rw [if_pos c4] at H
        have c4b0 := eq_true c4
        have c4b1 : decide (a0 ≤ (wrap64 (a0 + 1))) = true := decide_eq_true c4
        by_cases c5 : (wrap64 (a0 + 1)) ≤ 10
        · rw [if_pos c5] at H
          have c5b0 := eq_true c5
          have c5b1 : decide ((wrap64 (a0 + 1)) ≤ 10) = true := decide_eq_true c5
          obtain rfl := Option.some.inj H
          go_enter Try.func11, Try.ntmps11
          go_wp2
          repeat (go_quiet (fail); try go_wp2)
          go_ret
          exact ⟨by first | rfl | (simp; done) | (simp [*]; done), by repeat (first | exact Drawn0.refl _ | apply Drawn0.step)⟩
        · rw [if_neg c5] at H
          exact absurd H (by simp)
      · rw [if_neg c4] at H
        exact absurd H (by simp)
    · rw [if_neg c3] at H
      exact absurd H (by simp)
  · rw [if_neg c2] at H
    have c2b0 : decide (a0 < 10) = false := decide_eq_false c2
    clear c2
    obtain ⟨ji6, hji6⟩ : ∃ j_ : Int, (wrap64 (Int.tdiv a0 10)) = j_ := ⟨_, rfl⟩
    replace H : (if 0 ≤ (ji6) then (if (ji6) ≤ (wrap64 ((ji6) + 1)) then (if (wrap64 ((ji6) + 1)) ≤ 10 then (if 0 ≤ (Int.tmod a0 10) then (if (Int.tmod a0 10) ≤ (wrap64 ((Int.tmod a0 10) + 1)) then (if (wrap64 ((Int.tmod a0 10) + 1)) ≤ 10 then (if ((⟨#[48, 49, 50, 51, 52, 53, 54, 55, 56, 57]⟩ : ByteArray).extract ((ji6) : Int).toNat ((wrap64 ((ji6) + 1)) : Int).toNat).size + ((⟨#[48, 49, 50, 51, 52, 53, 54, 55, 56, 57]⟩ : ByteArray).extract ((Int.tmod a0 10) : Int).toNat ((wrap64 ((Int.tmod a0 10) + 1)) : Int).toNat).size ≤ 9223372036854775807 then (some (((⟨#[48, 49, 50, 51, 52, 53, 54, 55, 56, 57]⟩ : ByteArray).extract ((ji6) : Int).toNat ((wrap64 ((ji6) + 1)) : Int).toNat) ++ ((⟨#[48, 49, 50, 51, 52, 53, 54, 55, 56, 57]⟩ : ByteArray).extract ((Int.tmod a0 10) : Int).toNat ((wrap64 ((Int.tmod a0 10) + 1)) : Int).toNat))) else (none)) else (none)) else (none)) else (none)) else (none)) else (none)) else (none)) = some r := by first | (rw [hji6] at H; exact H) | (simp only [hji6] at H ⊢; exact H)
    have hji6w : (IntKind.i64.wrap (Int.tdiv a0 10)) = ji6 := (i64_w _).trans hji6
    by_cases c7 : 0 ≤ (ji6)
    · rw [if_pos c7] at H
      have c7b0 := eq_true c7
      have c7b1 : decide (0 ≤ (ji6)) = true := decide_eq_true c7
      clear c7
      by_cases c8 : (ji6) ≤ (wrap64 ((ji6) + 1))
      · rw [if_pos c8] at H
        have c8b0 := eq_true c8
        have c8b1 : decide ((ji6) ≤ (wrap64 ((ji6) + 1))) = true := decide_eq_true c8
        by_cases c9 : (wrap64 ((ji6) + 1)) ≤ 10
        · rw [if_pos c9] at H
          have c9b0 := eq_true c9
          have c9b1 : decide ((wrap64 ((ji6) + 1)) ≤ 10) = true := decide_eq_true c9
          obtain ⟨ji10, hji10⟩ : ∃ j_ : Int, (Int.tmod a0 10) = j_ := ⟨_, rfl⟩
          replace H : (if 0 ≤ (ji10) then (if (ji10) ≤ (wrap64 ((ji10) + 1)) then (if (wrap64 ((ji10) + 1)) ≤ 10 then (if ((⟨#[48, 49, 50, 51, 52, 53, 54, 55, 56, 57]⟩ : ByteArray).extract ((ji6) : Int).toNat ((wrap64 ((ji6) + 1)) : Int).toNat).size + ((⟨#[48, 49, 50, 51, 52, 53, 54, 55, 56, 57]⟩ : ByteArray).extract ((ji10) : Int).toNat ((wrap64 ((ji10) + 1)) : Int).toNat).size ≤ 9223372036854775807 then (some (((⟨#[48, 49, 50, 51, 52, 53, 54, 55, 56, 57]⟩ : ByteArray).extract ((ji6) : Int).toNat ((wrap64 ((ji6) + 1)) : Int).toNat) ++ ((⟨#[48, 49, 50, 51, 52, 53, 54, 55, 56, 57]⟩ : ByteArray).extract ((ji10) : Int).toNat ((wrap64 ((ji10) + 1)) : Int).toNat))) else (none)) else (none)) else (none)) else (none)) = some r := by first | (rw [hji10] at H; exact H) | (simp only [hji10] at H ⊢; exact H)
          by_cases c11 : 0 ≤ (ji10)
          · rw [if_pos c11] at H
            have c11b0 := eq_true c11
            have c11b1 : decide (0 ≤ (ji10)) = true := decide_eq_true c11
            clear c11
            by_cases c12 : (ji10) ≤ (wrap64 ((ji10) + 1))
            · rw [if_pos c12] at H
              have c12b0 := eq_true c12
              have c12b1 : decide ((ji10) ≤ (wrap64 ((ji10) + 1))) = true := decide_eq_true c12
              by_cases c13 : (wrap64 ((ji10) + 1)) ≤ 10
              · rw [if_pos c13] at H
                have c13b0 := eq_true c13
                have c13b1 : decide ((wrap64 ((ji10) + 1)) ≤ 10) = true := decide_eq_true c13
                by_cases c14 : ((⟨#[48, 49, 50, 51, 52, 53, 54, 55, 56, 57]⟩ : ByteArray).extract ((ji6) : Int).toNat ((wrap64 ((ji6) + 1)) : Int).toNat).size + ((⟨#[48, 49, 50, 51, 52, 53, 54, 55, 56, 57]⟩ : ByteArray).extract ((ji10) : Int).toNat ((wrap64 ((ji10) + 1)) : Int).toNat).size ≤ 9223372036854775807
                · rw [if_pos c14] at H
                  have c14b0 := eq_true c14
                  have c14b1 : decide (((⟨#[48, 49, 50, 51, 52, 53, 54, 55, 56, 57]⟩ : ByteArray).extract ((ji6) : Int).toNat ((wrap64 ((ji6) + 1)) : Int).toNat).size + ((⟨#[48, 49, 50, 51, 52, 53, 54, 55, 56, 57]⟩ : ByteArray).extract ((ji10) : Int).toNat ((wrap64 ((ji10) + 1)) : Int).toNat).size ≤ 9223372036854775807) = true := decide_eq_true c14
                  try have c14b2 : (9223372036854775807 < ((⟨#[48, 49, 50, 51, 52, 53, 54, 55, 56, 57]⟩ : ByteArray).extract ((ji6) : Int).toNat ((wrap64 ((ji6) + 1)) : Int).toNat).size + ((⟨#[48, 49, 50, 51, 52, 53, 54, 55, 56, 57]⟩ : ByteArray).extract ((ji10) : Int).toNat ((wrap64 ((ji10) + 1)) : Int).toNat).size) = False := eq_false (Nat.not_lt.2 c14)
                  (try (have c14h := c14; simp only [ByteArray.size_append, ByteArray.size_extract, Int.toNat_natCast, Nat.sub_zero, Nat.min_self, ByteArray.extract_zero_size, show (⟨#[48, 49, 50, 51, 52, 53, 54, 55, 56, 57]⟩ : ByteArray).size = 10 from rfl] at c14h; have c14b7 := eq_false (Nat.not_lt.2 c14h); clear c14h))
                  try have c14b5 : (9223372036854775807 < (((wrap64 ((ji6) + 1)) : Int).toNat - ((ji6) : Int).toNat) + (((wrap64 ((ji10) + 1)) : Int).toNat - ((ji10) : Int).toNat)) = False := eq_false (Nat.not_lt.2 (by have h_ := c14; simp only [ByteArray.size_append, ByteArray.size_extract, show (⟨#[48, 49, 50, 51, 52, 53, 54, 55, 56, 57]⟩ : ByteArray).size = 10 from rfl] at h_ ⊢; omega))
                  obtain rfl := Option.some.inj H
                  go_enter Try.func11, Try.ntmps11
                  go_wp2
                  repeat (go_quiet (fail); try go_wp2)
                  go_ret
                  exact ⟨by first | rfl | (simp; done) | (simp only [← hji6, ← hji10] <;> (first | rfl | simp)) | (simp [*]; done), by repeat (first | exact Drawn0.refl _ | apply Drawn0.step)⟩
                · rw [if_neg c14] at H
                  exact absurd H (by simp)
              · rw [if_neg c13] at H
                exact absurd H (by simp)
            · rw [if_neg c12] at H
              exact absurd H (by simp)
          · rw [if_neg c11] at H
            exact absurd H (by simp)
        · rw [if_neg c9] at H
          exact absurd H (by simp)
      · rw [if_neg c8] at H
        exact absurd H (by simp)
    · rw [if_neg c7] at H
      exact absurd H (by simp)

/-! ### letterboxlaw18_WireLeft: function 4 -/
/-- what Feed tells, in a form that can be reckoned -/
def fd_o (b : List Int) (asked : Int) (l : List Int) : Option (List (Int × List Int) × List Int × Int) := (fd_f 200 b asked l).map fun t => (t.1.map fun e => (e.f0, e.f1), t.2)
theorem fd_of {b : List Int} {asked : Int} {l : List Int} {evs : List (Int × List Int)} {b' : List Int} {a' : Int} (h : fd_o b asked l = some (evs, b', a')) : fd_f 200 b asked l = some (evs.map fun e => (⟨e.1, e.2⟩ : S33), b', a') := by
  unfold fd_o at h
  cases hf : fd_f 200 b asked l with
  | none => rw [hf] at h; cases h
  | some t =>
    rw [hf] at h
    have h := Option.some.inj h
    obtain ⟨evs0, r⟩ := t
    have h1 := congrArg Prod.fst h
    have h2 := congrArg Prod.snd h
    simp only at h1 h2
    subst h1 h2
    rw [List.map_map]
    congr 2
    exact (List.map_id evs0).symm
theorem Fr.below {w w1 : World} {base g : Nat} {v : Value} {b : List Int} {asked : Int} (h : Fr w base g v b asked) (hB : Below w.heap.size w w1) : Fr w1 base g v b asked :=
  ⟨(hB.block _ (blk_lt h.blk)).trans h.blk, Kd.R_below h.row hB⟩
def wl_a (i : Nat) : List Int := List.replicate i 97
def wl_h (s : Nat) : List Int := [32, 123] ++ (if s < 10 then [48 + (s : Int)] else [48 + (s / 10 : Nat), 48 + (s % 10 : Nat)]) ++ [125, 13, 10]
def wl_b (s : Nat) : List Int := [120, 121] ++ wl_h s
def wl_1 (i : Nat) : Bool := fd_o (wl_a i) 0 [97] == some ([], wl_a (i + 1), 0)
def wl_2 (i : Nat) : Bool := fd_o (wl_a i) 0 [13] == some ([], wl_a i ++ [13], 0)
def wl_3 (i : Nat) : Bool := fd_o (wl_a i ++ [13]) 0 [10, 120, 121] == some ([(2, wl_a i)], [120, 121], 0)
def wl_4 (s : Nat) : Bool := fd_o [120, 121] 0 (wl_h s) == some ([(1, [])], wl_b s, ((wl_b s).length : Int))
def wl_5 (s : Nat) : Bool := fd_o (wl_b s) ((wl_b s).length : Int) (List.replicate s 0) == some ([], wl_b s ++ List.replicate s 0, ((wl_b s).length : Int))
def wl_6 (s : Nat) : Bool := fd_o (wl_b s ++ List.replicate s 0) ((wl_b s).length : Int) [10] == some ([(2, wl_b s ++ List.replicate s 0)], [], 0)
theorem wl_60 : (List.range 60).all (fun i => wl_1 i && (wl_2 i && wl_3 i)) = true := by decide +kernel
theorem wl_40 : (List.range 40).all (fun s => wl_4 s && (wl_5 s && wl_6 s)) = true := by decide +kernel
theorem wl_at1 (i : Nat) (h : i < 60) : fd_o (wl_a i) 0 [97] = some ([], wl_a (i + 1), 0) := by
  have := List.all_eq_true.1 wl_60 i (List.mem_range.2 h)
  rw [Bool.and_eq_true] at this
  exact beq_iff_eq.1 this.1
theorem wl_at2 (i : Nat) (h : i < 60) : fd_o (wl_a i) 0 [13] = some ([], wl_a i ++ [13], 0) := by
  have := List.all_eq_true.1 wl_60 i (List.mem_range.2 h)
  rw [Bool.and_eq_true, Bool.and_eq_true] at this
  exact beq_iff_eq.1 this.2.1
theorem wl_at3 (i : Nat) (h : i < 60) : fd_o (wl_a i ++ [13]) 0 [10, 120, 121] = some ([(2, wl_a i)], [120, 121], 0) := by
  have := List.all_eq_true.1 wl_60 i (List.mem_range.2 h)
  rw [Bool.and_eq_true, Bool.and_eq_true] at this
  exact beq_iff_eq.1 this.2.2
theorem wl_at4 (s : Nat) (h : s < 40) : fd_o [120, 121] 0 (wl_h s) = some ([(1, [])], wl_b s, ((wl_b s).length : Int)) := by
  have := List.all_eq_true.1 wl_40 s (List.mem_range.2 h)
  rw [Bool.and_eq_true] at this
  exact beq_iff_eq.1 this.1
theorem wl_at5 (s : Nat) (h : s < 40) : fd_o (wl_b s) ((wl_b s).length : Int) (List.replicate s 0) = some ([], wl_b s ++ List.replicate s 0, ((wl_b s).length : Int)) := by
  have := List.all_eq_true.1 wl_40 s (List.mem_range.2 h)
  rw [Bool.and_eq_true, Bool.and_eq_true] at this
  exact beq_iff_eq.1 this.2.1
theorem wl_at6 (s : Nat) (h : s < 40) : fd_o (wl_b s ++ List.replicate s 0) ((wl_b s).length : Int) [10] = some ([(2, wl_b s ++ List.replicate s 0)], [], 0) := by
  have := List.all_eq_true.1 wl_40 s (List.mem_range.2 h)
  rw [Bool.and_eq_true, Bool.and_eq_true] at this
  exact beq_iff_eq.1 this.2.2
def wl_d (s : Nat) : List Int := if s < 10 then [48 + (s : Int)] else [48 + (s / 10 : Nat), 48 + (s % 10 : Nat)]
theorem wl_ds : ∀ s : Fin 40, letterboxlaw18_digits.f ((s.val : Nat) : Int) = some (strOfNums (wl_d s.val)) := by decide +kernel
theorem wl_app (l m : List Int) : strOfNums (l ++ m) = strOfNums l ++ strOfNums m := by
  apply ByteArray.ext
  apply Array.ext'
  rw [ByteArray.data_append, Array.toList_append, strOfNums_data, strOfNums_data, strOfNums_data, List.map_append]
theorem wl_hb (s : Nat) (h : s < 40) : ∀ c ∈ wl_h s, 0 ≤ c ∧ c ≤ 255 := by
  intro c hc
  unfold wl_h at hc
  split at hc <;> simp at hc <;> omega
theorem wl_digits (s : Nat) (h : s < 40) : ∃ r, r = strOfNums (wl_d s) ∧ ((⟨#[32, 123]⟩ : ByteArray) ++ r) ++ (⟨#[125, 13, 10]⟩ : ByteArray) = strOfNums (wl_h s) ∧ letterboxlaw18_digits.f (s : Int) = some r := by
  refine ⟨_, rfl, ?_, wl_ds ⟨s, h⟩⟩
  unfold wl_h wl_d
  rw [wl_app, wl_app]; rfl
set_option maxHeartbeats 8000000 in
set_option maxRecDepth 100000 in
theorem wl_walk (n k : Int) (hn : 0 ≤ n ∧ n ≤ 255) (hk : 0 ≤ k ∧ k ≤ 255) (w : World) : Calls Try.prog 4 #[.int .u8 n, .int .u8 k] w fun e w' => e = .returned (.bool true) ∧ Below w.heap.size w w' := by
  have kc := fun (w : World) (C : Array Value) (n c : Nat) => Lib.run_convert_bytes_const (P := Try.prog) w 22 5 C n c Try.underlying22 Try.underlying5
  obtain ⟨N, hN⟩ : ∃ N : Nat, n % 60 = (N : Int) := ⟨(n % 60).toNat, by omega⟩
  have hN60 : N < 60 := by omega
  have HN := Aside0.mk hN
  go_enter Try.func4, Try.ntmps4
  go_wp2_with (go_at_call 7; refine (fr_awake _).mono ?_; rintro e w1 ⟨rfl, hB1⟩; have HB1 := Aside0.mk hB1; clear hB1)
  generalize hW0 : w1.alloc (Obj.cells #[Value.slice none 0 0, Value.int IntKind.i64 0] 25) = W0
  have F0 : Fr W0 w1.heap.size w1.heap.size (.slice none 0 0) (wl_a 0) 0 := ⟨by subst hW0; exact heap_alloc_new _ _, Kd.R_nil _ _ _ _ _⟩
  have B0 : Below w.heap.size w W0 := by subst hW0; exact HB1.out.trans (below_alloc (Below.refl _ _) _ |>.mono HB1.out.size)
  have s1 := HB1.out.size
  clear hW0
  generalize w1.heap.size = g at *
  have HF0 := Aside0.mk F0
  have HB0 := Aside0.mk B0
  clear F0 B0 HB1
  go_loopw [7] (fun v7 w' => ∃ (i : Nat) (v : Value), v7 = .int .i64 (i : Int) ∧ i ≤ N ∧ Aside0 (Fr w' g g v (wl_a i) 0) ∧ Aside0 (Below w.heap.size w w')) (fun v7 _ => N - (intOf v7).toNat)
  case atStart => exact ⟨0, _, rfl, Nat.zero_le _, HF0, HB0⟩
  case round =>
    clear HF0 HB0
    obtain ⟨i, v, rfl, hi, HF, HB⟩ := hrel
    by_cases hlt : i < N
    · have hb : decide ((i : Int) < n % 60) = true := decide_eq_true (by omega)
      go_wp2_with fail
      have FA := HF.out.below (below_alloc (Below.refl _ _) (.cells ([97].map (Value.int .u8)).toArray 5 (1, 2)))
      refine (fr_Feed 200 g v (wl_a i) 0 (some ⟨wr.heap.size, 0, none⟩) 1 [97] _ _ _ _ g FA (Nat.le_of_lt (blk_lt FA.blk)) (Go.Proofs.Ytmdhggiffdkmfaa.Aids.const_C (t := 5) (fr := (1, 2)) [97] (by decide) (heap_alloc_new _ _)) (fd_of (wl_at1 i (by omega)))).mono ?_
      rintro e w2 ⟨v2, ve, rfl, I⟩
      obtain ⟨Ae, ce, rfl⟩ := Kd.R_slice I.ev
      have HF2 := Aside0.mk I.fr
      have HB2 := Aside0.mk ((HB.out.alloc HB.out.size _).trans (I.bel w.heap.size (by omega) (by omega) (by have := HB.out.size; simp; omega)))
      have hL := fr_Left g v2 (wl_a (i + 1)) 0 w2 g I.fr
      rw [show (((wl_a (i + 1)).length : Nat) : Int) = (i : Int) + 1 by unfold wl_a; simp] at hL
      have HL := Aside0.mk hL
      have hne : ((i : Int) + 1 != (i : Int) + 1) = false := by simp
      clear FA I hL
      go_wp2_with (go_at_call 10; refine HL.out.mono ?_; rintro e w3 ⟨rfl, rfl⟩)
      refine ⟨⟨i + 1, v2, by simp, by omega, HF2, HB2⟩, ?_⟩
      simp [intOf]; omega
    · have e : i = N := by omega
      subst e
      go_wp2_with fail
      have FA := HF.out.below (below_alloc (Below.refl _ _) (.cells ([13].map (Value.int .u8)).toArray 5 (1, 2)))
      refine (fr_Feed 200 g v (wl_a i) 0 (some ⟨wr.heap.size, 0, none⟩) 1 [13] _ _ _ _ g FA (Nat.le_of_lt (blk_lt FA.blk)) (Go.Proofs.Ytmdhggiffdkmfaa.Aids.const_C (t := 5) (fr := (1, 2)) [13] (by decide) (heap_alloc_new _ _)) (fd_of (wl_at2 i (by omega)))).mono ?_
      rintro e w2 ⟨v2, ve, rfl, I⟩
      obtain ⟨Ae, ce, rfl⟩ := Kd.R_slice I.ev
      have HF2 := Aside0.mk I.fr
      have HB2 := Aside0.mk ((HB.out.alloc HB.out.size _).trans (I.bel w.heap.size (by omega) (by omega) (by have := HB.out.size; simp; omega)))
      clear FA I HF HB
      go_wp2_with fail
      have FA := HF2.out.below (below_alloc (Below.refl _ _) (.cells ([10, 120, 121].map (Value.int .u8)).toArray 5 (3, 4)))
      refine (fr_Feed 200 g v2 (wl_a i ++ [13]) 0 (some ⟨w2.heap.size, 0, none⟩) 3 [10, 120, 121] _ _ _ _ g FA (Nat.le_of_lt (blk_lt FA.blk)) (Go.Proofs.Ytmdhggiffdkmfaa.Aids.const_C (t := 5) (fr := (3, 4)) [10, 120, 121] (by decide) (heap_alloc_new _ _)) (fd_of (wl_at3 i (by omega)))).mono ?_
      rintro e w3 ⟨v3, ve3, rfl, I⟩
      obtain ⟨Ae3, ce3, rfl⟩ := Kd.R_slice I.ev
      obtain ⟨g3, rfl⟩ := fr_cell I.ev (by simp)
      obtain ⟨_, Ab, cb, e2, k2, k2b, hlb, hcb⟩ := at_T33 (Kd.R_reads' I.ev).2.2 0 (by decide) (by simp)
      cases e2
      have hla : (wl_a i).length = i := by simp [wl_a]
      replace k2 : w3.cell? ⟨g3, 0, none⟩ = some (.int .i64 2) := k2
      replace k2b : w3.cell? ⟨g3, 1, none⟩ = some (.slice Ab i cb) := by
        have h : w3.cell? ⟨g3, 1, none⟩ = some (.slice Ab (wl_a i).length cb) := k2b
        rwa [hla] at h
      have HF3 := Aside0.mk I.fr
      have HB3 := Aside0.mk ((HB2.out.alloc HB2.out.size _).trans (I.bel w.heap.size (by omega) (by omega) (by have := HB2.out.size; simp; omega)))
      have HL := Aside0.mk (fr_Left g v3 [120, 121] 0 w3 g I.fr)
      clear FA I HF2 HB2 hcb hlb hla
      obtain ⟨s, hs⟩ : ∃ s : Nat, k % 40 = (s : Int) := ⟨(k % 40).toNat, by omega⟩
      have hs40 : s < 40 := by omega
      obtain ⟨r, hr, hrs, hd⟩ := wl_digits s hs40
      have hd' := Aside0.mk (show letterboxlaw18_digits.f (s : Int) = some r from hd)
      clear hd
      have hrz : r.size ≤ 2 := by rw [hr, strOfNums_size]; unfold wl_d; split <;> simp
      have HRS := Aside0.mk hrs
      have HRZ := Aside0.mk hrz
      have t1 : (9223372036854775807 < 2 + r.size) = False := eq_false (by omega)
      have t2 : (9223372036854775807 < 2 + r.size + 3) = False := eq_false (by omega)
      clear hr hrs hrz
      have hcv := fun W : World => print_bytes (P := Try.prog) 9 22 5 Try.underlying9 Try.underlying22 Try.underlying5 (((⟨#[32, 123]⟩ : ByteArray) ++ r) ++ (⟨#[125, 13, 10]⟩ : ByteArray)) W
      go_wp2_with (first | (go_at_call 10; refine HL.out.mono ?_; rintro e w4 ⟨rfl, rfl⟩) | (go_at_call 11; refine (letterboxlaw18_digits.calls (s : Int) r _ hd'.out).mono ?_; rintro e w5 ⟨rfl, ⟨nd, rfl⟩⟩))
      have hlen : 2 + r.size + 3 = (wl_h s).length := by
        have h := congrArg ByteArray.size HRS.out
        rw [strOfNums_size, ByteArray.size_append, ByteArray.size_append] at h
        exact h
      obtain ⟨hV, hBs, _⟩ := Go.Proofs.Ytmdhggiffdkmfaa.Conv.bytes_facts (w0 := w4.drewN nd) (W := w4.drewN nd) (base := w4.heap.size) (e := 5) (s := ((⟨#[32, 123]⟩ : ByteArray) ++ r) ++ (⟨#[125, 13, 10]⟩ : ByteArray)) (ok := fun _ => True) (by rw [HRS.out, strOfNums_size]; have := HRZ.out; omega) trivial (Below.refl _ _) (Nat.le_refl _)
      have hC := (Kd.V_reads' hV).2.2
      rw [show bytesOf (((⟨#[32, 123]⟩ : ByteArray) ++ r) ++ (⟨#[125, 13, 10]⟩ : ByteArray)) = wl_h s by rw [HRS.out, Go.Proofs.Ytmdhggiffdkmfaa.Aids.bytes_str _ (wl_hb s hs40)]] at hC
      have FA := HF3.out.below ((Drawn0.below ⟨⟨nd, rfl⟩⟩).trans hBs)
      have HBB := Aside0.mk (HB3.out.trans (((Drawn0.below (w := w4) ⟨⟨nd, rfl⟩⟩).trans hBs).mono HB3.out.size))
      rw [hlen]
      refine (fr_Feed 200 g v3 [120, 121] 0 (some ⟨w4.heap.size, 0, none⟩) _ (wl_h s) _ _ _ _ g FA (Nat.le_of_lt (blk_lt FA.blk)) hC (fd_of (wl_at4 s hs40))).mono ?_
      rintro e w6 ⟨v4, ve4, rfl, I⟩
      obtain ⟨Ae4, ce4, rfl⟩ := Kd.R_slice I.ev
      obtain ⟨g4, rfl⟩ := fr_cell I.ev (by simp)
      obtain ⟨_, _, _, e4, k4, _⟩ := at_T33 (Kd.R_reads' I.ev).2.2 0 (by decide) (by simp)
      cases e4
      replace k4 : w6.cell? ⟨g4, 0, none⟩ = some (.int .i64 1) := k4
      have HF6 := Aside0.mk I.fr
      have HB6 := Aside0.mk (HBB.out.trans (I.bel w.heap.size (by omega) (by omega) HBB.out.size))
      clear FA I HF3 hV hBs hC hcv t1 t2 hlen k2 k2b
      go_wp2_with ((with_reducible refine gate_dst (N := 93) rfl ?_); refine Kd.R_make (Kd.int .u8) (w0 := w6) w6.heap.size 5 rfl (N := 93) rfl 22 (.tmp 92) (.tmp 92) rfl (s : Int) rfl rfl Try.underlying22 (.int .u8 0) 1 infoB rfl (by decide) (by decide) (0 : Int) (ok := fun _ => True) (okp := fun _ => True) ?hz (fun _ h => h) trivial (by omega) ?hl (Below.refl _ _) (Nat.le_refl _) ?_; (case hz => rfl); (case hl => rw [Int.toNat_natCast]; omega); intro v7 w7 hR7 hB7 hg7 hb7; rw [Int.toNat_natCast] at hR7; obtain ⟨A7, c7, rfl⟩ := Kd.R_slice hR7; have HR7 := Aside0.mk hR7; have HB7 := Aside0.mk hB7; clear hR7 hB7 hg7 hb7; rw [List.length_replicate] at HR7 ⊢)
      have FA := HF6.out.below HB7.out
      have HBB := Aside0.mk (HB6.out.trans (HB7.out.mono HB6.out.size))
      have hC := (Kd.R_reads' HR7.out).2.2
      have e7 : (List.replicate s (0 : Int)).length = s := List.length_replicate
      rw [← e7]
      refine (fr_Feed 200 g v4 (wl_b s) _ A7 c7 (List.replicate s 0) _ _ _ _ g FA (Nat.le_of_lt (blk_lt FA.blk)) hC (fd_of (wl_at5 s hs40))).mono ?_
      rintro e w8 ⟨v8, ve8, rfl, I⟩
      obtain ⟨Ae8, ce8, rfl⟩ := Kd.R_slice I.ev
      have HF8 := Aside0.mk I.fr
      have HB8 := Aside0.mk (HBB.out.trans (I.bel w.heap.size (by omega) (by omega) HBB.out.size))
      clear FA I HF6 HB6 hC e7 k4
      go_wp2_with fail
      have FA := HF8.out.below (below_alloc (Below.refl _ _) (.cells ([10].map (Value.int .u8)).toArray 5 (1, 2)))
      refine (fr_Feed 200 g v8 (wl_b s ++ List.replicate s 0) _ (some ⟨w8.heap.size, 0, none⟩) 1 [10] _ _ _ _ g FA (Nat.le_of_lt (blk_lt FA.blk)) (Go.Proofs.Ytmdhggiffdkmfaa.Aids.const_C (t := 5) (fr := (1, 2)) [10] (by decide) (heap_alloc_new _ _)) (fd_of (wl_at6 s hs40))).mono ?_
      rintro e w9 ⟨v9, ve9, rfl, I⟩
      obtain ⟨Ae9, ce9, rfl⟩ := Kd.R_slice I.ev
      obtain ⟨g9, rfl⟩ := fr_cell I.ev (by simp)
      obtain ⟨_, _, _, e9, k9, _⟩ := at_T33 (Kd.R_reads' I.ev).2.2 0 (by decide) (by simp)
      cases e9
      replace k9 : w9.cell? ⟨g9, 0, none⟩ = some (.int .i64 2) := k9
      have HB9 := Aside0.mk ((HB8.out.alloc HB8.out.size _).trans (I.bel w.heap.size (by omega) (by omega) (by have := HB8.out.size; simp; omega)))
      have HL := Aside0.mk (fr_Left g v9 [] 0 w9 g I.fr)
      clear FA I HF8 HB8
      go_wp2_with (go_at_call 10; refine HL.out.mono ?_; rintro e w10 ⟨rfl, rfl⟩)
      go_ret
      exact ⟨rfl, HB9.out⟩
def letterboxlaw18_WireLeft.f (k : Nat) (a0 : Int) (a1 : Int) : Option Bool := some true
def letterboxlaw18_WireLeft.Pure : Prop := ∀ (a0 : Int) (a1 : Int), (Lit.int .u8 a0).wf = true → (Lit.int .u8 a1).wf = true → ∃ k, letterboxlaw18_WireLeft.f k a0 a1 = some true
theorem letterboxlaw18_WireLeft.walk (P : letterboxlaw18_WireLeft.Pure) (a0 : Int) (a1 : Int) (w : World) (w0 : (Lit.int .u8 a0).wf = true) (w1 : (Lit.int .u8 a1).wf = true) :
    Calls Try.prog 4 #[.int .u8 a0, .int .u8 a1] w fun e w' => e = .returned (.bool true) ∧ Below w.heap.size w w' :=
  wl_walk a0 a1 (Go.Proofs.Ytmdhggiffdkmfaa.Aids.wf_u8 w0) (Go.Proofs.Ytmdhggiffdkmfaa.Aids.wf_u8 w1) w

/-! ### letterboxref18_printed: function 25 -/
def letterboxref18_printed.l0 : Nat → ByteArray → Int → Option (Bool)
  | 0, _, _ => none
  | k + 1, x0, x3 => if x3 < (x0.size : Int) then (if 0 ≤ x3 then (if (bt x0 x3) < 32 then (some false) else (if (bt x0 x3) > 126 then (some false) else (letterboxref18_printed.l0 k x0 (wrap64 (x3 + 1))))) else (none)) else (some true)
def letterboxref18_printed.f (k : Nat) (a0 : ByteArray) : Option (Bool) := letterboxref18_printed.l0 k a0 0
theorem letterboxref18_printed.mono_l : ∀ k, (∀ y0 y1, LeO (letterboxref18_printed.l0 k y0 y1) (letterboxref18_printed.l0 (k + 1) y0 y1))
  | 0 => fun _ _ r h => by simp [letterboxref18_printed.l0] at h
  | k + 1 => by
    have ih0 := letterboxref18_printed.mono_l k
    · intro y0 y1
      unfold letterboxref18_printed.l0
      repeat' first
      | (with_reducible exact ih0 _ _)
      | (with_reducible exact LeO.refl _)
      | (with_reducible exact LeO.none _)
      | (with_reducible refine LeO.ite ?_ ?_)
      | (with_reducible refine LeO.bind ?_ (fun _ => ?_))
      | exact ih0 _ _
      | exact LeO.none _
      | refine LeO.ite ?_ ?_
      | refine LeO.bind ?_ (fun _ => ?_)
theorem letterboxref18_printed.mono : ∀ a0 k, LeO (letterboxref18_printed.f k a0) (letterboxref18_printed.f (k + 1) a0) := by
  intro a0 k
  have ih0 := letterboxref18_printed.mono_l k
  unfold letterboxref18_printed.f
  repeat' first
      | (with_reducible exact ih0 _ _)
      | (with_reducible exact LeO.refl _)
      | (with_reducible exact LeO.none _)
      | (with_reducible refine LeO.ite ?_ ?_)
      | (with_reducible refine LeO.bind ?_ (fun _ => ?_))
      | exact ih0 _ _
      | exact LeO.none _
      | refine LeO.ite ?_ ?_
      | refine LeO.bind ?_ (fun _ => ?_)
set_option maxHeartbeats 8000000 in
set_option maxRecDepth 100000 in
theorem letterboxref18_printed.calls (k : Nat) (a0 : ByteArray) (r : Bool) (w : World) (h : letterboxref18_printed.f k a0 = some r) :
    Calls Try.prog 25 #[.string a0] w fun e w' => e = .returned (.bool r) ∧ Drawn0 w w' := by
  have H : (letterboxref18_printed.l0 k a0 0) = some r := h
  clear h
  have H' := Aside0.mk H
  clear H
  go_enter Try.func25, Try.ntmps25
  go_wp2
  go_loopg [3] k (fun kq v3 w' => ∃ (x3_1 : Int), v3 = .int .i64 x3_1 ∧ Aside0 (letterboxref18_printed.l0 kq a0 x3_1 = some r) ∧ Aside0 (kq ≤ k) ∧ Drawn0 w w')
  case atStart => exact ⟨(0), (by first | rfl | (simp; done) | (simp [*]; done)), H', ⟨Nat.le_refl _⟩, by repeat (first | exact Drawn0.refl _ | apply Drawn0.step)⟩
  case round =>
    clear H'
    obtain ⟨x3_1, rfl, HA, HK1, ⟨m1, rfl⟩⟩ := hrel
    cases gk with
    | zero => exact absurd HA.out (by simp [letterboxref18_printed.l0])
    | succ k1 =>
      have H := HA.out
      clear HA
      simp only [letterboxref18_printed.l0] at H
      by_cases c2 : x3_1 < (a0.size : Int)
      · rw [if_pos c2] at H
        have c2b0 : decide (x3_1 < (a0.size : Int)) = true := decide_eq_true c2
        clear c2
        by_cases c3 : 0 ≤ x3_1
        · rw [if_pos c3] at H
          have c3b0 : decide (0 ≤ x3_1) = true := decide_eq_true c3
          clear c3
          by_cases c5 : (bt a0 x3_1) < 32
          · rw [if_pos c5] at H
            have c5b0 : decide ((bt a0 x3_1) < 32) = true := decide_eq_true c5
            clear c5
            obtain rfl := Option.some.inj H
            have p4 : 0 ≤ (x3_1 : Int) := of_decide_eq_true (by first | (with_reducible assumption) | assumption)
            have q4 : x3_1 < (a0.size : Int) := of_decide_eq_true (by first | (with_reducible assumption) | assumption)
            have hx4 := bt_at a0 x3_1
            replace p4 := eq_true p4
            replace q4 := eq_true q4
            go_wp2
            go_ret
            exact ⟨by first | rfl | (simp; done) | (simp [*]; done), by repeat (first | exact Drawn0.refl _ | apply Drawn0.step)⟩
          · rw [if_neg c5] at H
            have c5b0 : decide ((bt a0 x3_1) < 32) = false := decide_eq_false c5
            clear c5
            by_cases c7 : (bt a0 x3_1) > 126
            · rw [if_pos c7] at H
              have c7b0 : decide (126 < (bt a0 x3_1)) = true := decide_eq_true c7
              clear c7
              obtain rfl := Option.some.inj H
              have p4 : 0 ≤ (x3_1 : Int) := of_decide_eq_true (by first | (with_reducible assumption) | assumption)
              have q4 : x3_1 < (a0.size : Int) := of_decide_eq_true (by first | (with_reducible assumption) | assumption)
              have hx4 := bt_at a0 x3_1
              replace p4 := eq_true p4
              replace q4 := eq_true q4
              have p6 : 0 ≤ (x3_1 : Int) := of_decide_eq_true (by first | (with_reducible assumption) | assumption)
              have q6 : x3_1 < (a0.size : Int) := of_decide_eq_true (by first | (with_reducible assumption) | assumption)
              have hx6 := bt_at a0 x3_1
              replace p6 := eq_true p6
              replace q6 := eq_true q6
              go_wp2
              go_ret
              exact ⟨by first | rfl | (simp; done) | (simp [*]; done), by repeat (first | exact Drawn0.refl _ | apply Drawn0.step)⟩
            · rw [if_neg c7] at H
              have c7b0 : decide (126 < (bt a0 x3_1)) = false := decide_eq_false c7
              clear c7
              have H' := Aside0.mk H
              clear H
              have p4 : 0 ≤ (x3_1 : Int) := of_decide_eq_true (by first | (with_reducible assumption) | assumption)
              have q4 : x3_1 < (a0.size : Int) := of_decide_eq_true (by first | (with_reducible assumption) | assumption)
              have hx4 := bt_at a0 x3_1
              replace p4 := eq_true p4
              replace q4 := eq_true q4
              have p6 : 0 ≤ (x3_1 : Int) := of_decide_eq_true (by first | (with_reducible assumption) | assumption)
              have q6 : x3_1 < (a0.size : Int) := of_decide_eq_true (by first | (with_reducible assumption) | assumption)
              have hx6 := bt_at a0 x3_1
              replace p6 := eq_true p6
              replace q6 := eq_true q6
              go_wp2
              go_roundg k1
              case measure => have := HK1.out; omega
              case rel => exact ⟨(wrap64 (x3_1 + 1)), (by first | rfl | (simp; done) | (simp [*]; done)), H', ⟨by have := HK1.out; omega⟩, by repeat (first | exact Drawn0.refl _ | apply Drawn0.step)⟩
        · rw [if_neg c3] at H
          exact absurd H (by simp)
      · rw [if_neg c2] at H
        have c2b0 : decide (x3_1 < (a0.size : Int)) = false := decide_eq_false c2
        clear c2
        obtain rfl := Option.some.inj H
        go_wp2
        go_ret
        exact ⟨by first | rfl | (simp; done) | (simp [*]; done), by repeat (first | exact Drawn0.refl _ | apply Drawn0.step)⟩

end Go.Proofs.Ytmdhggiffdkmfaa.P
