/- The law WireCuts holds: however bytes are cut into pieces, the same commands come of them, if none is too great. -/
import Derived.Test.YtmdhggiffdkmfaaCut3
import Derived.Test.YtmdhggiffdkmfaaPx7
set_option linter.unusedVariables false
set_option linter.unusedSectionVars false
namespace Go.Proofs.Ytmdhggiffdkmfaa.Pure
open Go.RowKit Go.Proofs.Ytmdhggiffdkmfaa.P Go.Proofs.YtmdhggiffdkmfaaW.PrintWords Go.Proofs.YtmdhggiffdkmfaaW.PrintLast Go.Proofs.Ytmdhggiffdkmfaa.Aids Go.Proofs.Ytmdhggiffdkmfaa.Chars
theorem rdE (evs : List S33) (i : Nat) (h : i < evs.length) : rd_T33 evs (i : Int) = evs[i] := by
  unfold rd_T33
  rw [Int.toNat_natCast, List.getD_eq_getElem?_getD, List.getElem?_eq_getElem h]; rfl
section
variable (evs : List S33) (hf : ∀ e ∈ evs, e.f1.length ≤ 1000) (hl : evs.length ≤ 10000)
include hf hl
theorem cmd_l0 (h12 : ∀ e ∈ evs, e.f0 = 1 ∨ e.f0 = 2) (d : Nat) : ∀ (acc : List Int) (i : Nat), evs.length - i ≤ d → i ≤ evs.length → acc.length ≤ 1002 * i →
    Ev (fun k => letterboxlaw18_commands.l0 k evs (strOfNums acc) (i : Int)) (strOfNums (acc ++ catC (evs.drop i)), true) := by
  have stop : ∀ acc : List Int, Ev (fun k => letterboxlaw18_commands.l0 k evs (strOfNums acc) (evs.length : Int)) (strOfNums (acc ++ catC (evs.drop evs.length)), true) := by
    intro acc
    refine st (fun k => by rw [letterboxlaw18_commands.l0]) (no (by omega) (fin ?_))
    rw [List.drop_eq_nil_of_le (Nat.le_refl _), catC, List.append_nil]
  induction d with
  | zero =>
    intro acc i hd hi _
    have e : i = evs.length := by omega
    subst e; exact stop acc
  | succ d ih =>
    intro acc i hd hi ha
    rcases Nat.lt_or_ge i evs.length with hlt | hge
    · have e1 : wrap64 ((i : Int) + 1) = ((i + 1 : Nat) : Int) := by rw [w64 (by omega) (by omega)]; omega
      have hm := List.getElem_mem hlt
      have h1 := hf _ hm
      have h3 := h12 _ hm
      have e0 : (⟨#[0, 10]⟩ : ByteArray) = strOfNums [0, 10] := rfl
      refine st (fun k => by rw [letterboxlaw18_commands.l0]) ?_
      rw [e1, rdE evs i hlt, List.drop_eq_getElem_cons hlt, catC, e0]
      simp only [str_append, strOfNums_size]
      refine yes (by omega) (yes (by omega) (no (by omega) ?_))
      by_cases h2 : evs[i].f0 = 2
      · rw [if_pos h2]
        have go := ih (acc ++ (evs[i].f1 ++ [0, 10])) (i + 1) (by omega) hlt (by simp; omega)
        rw [List.append_assoc] at go
        exact yes h2 (yes (by omega) (yes (by simp; omega) go))
      · rw [if_neg h2, List.nil_append]
        exact no h2 (ih acc (i + 1) (by omega) hlt (by omega))
    · have e : i = evs.length := by omega
      subst e; exact stop acc
theorem cmd_ok (h12 : ∀ e ∈ evs, e.f0 = 1 ∨ e.f0 = 2) : Ev (fun k => letterboxlaw18_commands.f k evs) (strOfNums (catC evs), true) :=
  cmd_l0 evs hf hl h12 evs.length [] 0 (by omega) (Nat.zero_le _) (Nat.zero_le _)
theorem cmd_b0 (d : Nat) : ∀ (acc : List Int) (i : Nat), evs.length - i ≤ d → i ≤ evs.length → acc.length ≤ 1002 * i → (∃ e ∈ evs.drop i, e.f0 = 3) →
    Ev (fun k => letterboxlaw18_commands.l0 k evs (strOfNums acc) (i : Int)) ((⟨#[]⟩ : ByteArray), false) := by
  induction d with
  | zero =>
    intro acc i hd hi _ h
    obtain ⟨e, he, _⟩ := h
    rw [List.drop_eq_nil_of_le (by omega)] at he; cases he
  | succ d ih =>
    intro acc i hd hi ha h
    rcases Nat.lt_or_ge i evs.length with hlt | hge
    · have e1 : wrap64 ((i : Int) + 1) = ((i + 1 : Nat) : Int) := by rw [w64 (by omega) (by omega)]; omega
      have h1 := hf _ (List.getElem_mem hlt)
      have e0 : (⟨#[0, 10]⟩ : ByteArray) = strOfNums [0, 10] := rfl
      rw [List.drop_eq_getElem_cons hlt] at h
      refine st (fun k => by rw [letterboxlaw18_commands.l0]) ?_
      rw [e1, rdE evs i hlt, e0]
      simp only [str_append, strOfNums_size]
      refine yes (by omega) (yes (by omega) ?_)
      by_cases h3 : evs[i].f0 = 3
      · exact yes h3 (fin rfl)
      · have h' : ∃ e ∈ evs.drop (i + 1), e.f0 = 3 := by
          obtain ⟨e, he, h0⟩ := h
          rcases List.mem_cons.1 he with rfl | he
          · exact absurd h0 h3
          · exact ⟨e, he, h0⟩
        refine no h3 ?_
        by_cases h2 : evs[i].f0 = 2
        · exact yes h2 (yes (by omega) (yes (by simp; omega) (ih (acc ++ (evs[i].f1 ++ [0, 10])) (i + 1) (by omega) hlt (by simp; omega) h')))
        · exact no h2 (ih acc (i + 1) (by omega) hlt (by omega) h')
    · obtain ⟨e, he, _⟩ := h
      rw [List.drop_eq_nil_of_le (by omega)] at he; cases he
theorem cmd_bad (h : ∃ e ∈ evs, e.f0 = 3) : Ev (fun k => letterboxlaw18_commands.f k evs) ((⟨#[]⟩ : ByteArray), false) :=
  cmd_b0 evs hf hl evs.length [] 0 (by omega) (Nat.zero_le _) (Nat.zero_le _) h
end
/-- what is fed behind what waits -/
theorem feed_rn (p x : List Int) {cs : List (List Int)} {r : List Int} (h : Rn (p ++ x) cs r) (hb : byte (p ++ x)) (hl : (p ++ x).length ≤ 1000) (asked : Int) :
    ∃ evs ask, Ev (fun K => fd_f K p asked x) (evs, r, ask) ∧ Ev (fun K => letterboxlaw18_commands.f K evs) (strOfNums (catL cs), true) := by
  obtain ⟨evs, ask, hE, k1, k2, k3⟩ := fd_rn h hb hl asked [] (by simp at hl ⊢; omega)
  have hc := cmd_ok evs k1.1 (by have := k1.2; omega) k2
  rw [k3] at hc
  refine ⟨evs, ask, ?_, hc⟩
  have h2 := e2ev hE
  rw [List.length_append] at hl
  obtain ⟨N, hN⟩ := h2
  exact ⟨N, fun k hk => by
    show (if p.length + x.length ≤ 100000000 then fd_l0 k k (p ++ x) asked [] else none) = _
    rw [if_pos (by clear hN; omega)]; exact hN k hk⟩
theorem wadd (a m : Nat) (h : a + m ≤ 1000) : wrap64 ((a : Int) + (m : Int)) = ((a + m : Nat) : Int) := by rw [w64 (by omega) (by omega)]; omega
theorem piece_ok (b : List Int) (hl : b.length ≤ 400) (a : Nat) (ha : a ≤ b.length) (q : Int) (hq : 0 ≤ q ∧ q ≤ 255) : ∃ m : Nat, wc_n b (a : Int) q = (m : Int) ∧ a + m ≤ b.length := by
  unfold wc_n
  rw [tmod_pos hq.1, w64 (x := q % 16) (by omega) (by omega), w64 (x := (b.length : Int) - (a : Int)) (by omega) (by omega)]
  by_cases hg : q % 16 > (b.length : Int) - (a : Int)
  · rw [if_pos hg]; exact ⟨b.length - a, by omega, by omega⟩
  · rw [if_neg hg]; exact ⟨(q % 16).toNat, by omega, by omega⟩
theorem feed_rb (p x : List Int) (h : Rb (p ++ x)) (hb : byte (p ++ x)) (hl : (p ++ x).length ≤ 1000) (asked : Int) :
    ∃ t, Ev (fun K => fd_f K p asked x) t ∧ Ev (fun K => letterboxlaw18_commands.f K t.1) ((⟨#[]⟩ : ByteArray), false) := by
  obtain ⟨evs, r, ask, hE, k1, k2⟩ := fd_rb h hb hl asked [] (by simp at hl ⊢; omega)
  have hc := cmd_bad evs k1.1 (by have := k1.2; omega) k2
  refine ⟨(evs, r, ask), ?_, hc⟩
  have h2 := e2ev hE
  rw [List.length_append] at hl
  obtain ⟨N, hN⟩ := h2
  exact ⟨N, fun k hk => by
    show (if p.length + x.length ≤ 100000000 then fd_l0 k k (p ++ x) asked [] else none) = _
    rw [if_pos (by clear hN; omega)]; exact hN k hk⟩
section
variable (b cuts : List Int) (hb : byte b) (hc : byte cuts) (hl : b.length ≤ 400) (hk : cuts.length ≤ 60) (cs : List (List Int)) (r : List Int) (hR : Rn b cs r)
include hb hc hl hk hR
theorem cuts_l0 (dI : Nat) : ∀ (i a : Nat) (bg : List Int) (ag : Int) (cp : List (List Int)), cuts.length - i ≤ dI → i ≤ cuts.length → a ≤ b.length → Rn (b.take a) cp bg →
    E2 (fun K d => wc_l0 K b cuts (strOfNums (catL cs)) r.length d bg ag (strOfNums (catL cp)) (a : Int) (i : Int)) true := by
  have room : ∀ (a : Nat) (bg : List Int) (cp : List (List Int)) (x : List Int), a ≤ b.length → Rn (b.take a) cp bg → a + x.length ≤ b.length → byte x → byte (bg ++ x) ∧ (bg ++ x).length ≤ 1000 := by
    intro a bg cp x ha h hx hbx
    obtain ⟨m, rfl⟩ := rn_suf h
    refine ⟨byte_append (byte_drop (byte_take hb _) _) hbx, ?_⟩
    rw [List.length_append, List.length_drop, List.length_take]; omega
  have catlen : ∀ (a : Nat) (bg : List Int) (cp : List (List Int)), a ≤ b.length → Rn (b.take a) cp bg → (catL cp).length ≤ 1002 * 400 := by
    intro a bg cp ha h
    have := rn_len h (by rw [List.length_take]; omega)
    rw [List.length_take] at this
    have h2 : 1002 * min a b.length ≤ 1002 * 400 := Nat.mul_le_mul_left _ (by omega)
    omega
  -- what the next piece is
  have next : ∀ (a m : Nat) (bg : List Int) (cp : List (List Int)), a + m ≤ b.length → Rn (b.take a) cp bg → ∃ cs' r', Rn (bg ++ ((b.take (a + m)).drop a)) cs' r' ∧ Rn (b.take (a + m)) (cp ++ cs') r' := by
    intro a m bg cp ham h
    have e : b.take (a + m) = b.take a ++ (b.take (a + m)).drop a := by
      rw [List.drop_take, Nat.add_sub_cancel_left, List.take_add]
    have hxl : ((b.take (a + m)).drop a).length = m := by rw [List.length_drop, List.length_take]; omega
    have hbx : byte ((b.take (a + m)).drop a) := byte_drop (byte_take hb _) _
    have hbt : byte (b.take a) := byte_take hb _
    have htl : (b.take a).length ≤ 1000 := by rw [List.length_take]; omega
    rcases rn_tot _ (bg ++ (b.take (a + m)).drop a) (Nat.le_refl _) with ⟨cs', r', h'⟩ | h'
    · refine ⟨cs', r', h', ?_⟩
      have := rn_app ((b.take (a + m)).drop a) h hbt htl cs' r' h'
      rw [← e] at this
      exact this
    · have h2 := rn_rb_app ((b.take (a + m)).drop a) h hbt htl h'
      rw [← e] at h2
      have h3 := rb_app (b.drop (a + m)) h2 (byte_take hb _) (by rw [List.length_take]; omega)
      rw [List.take_append_drop] at h3
      exact absurd h3 (rn_rb hR)
  have stop : ∀ (a : Nat) (bg : List Int) (ag : Int) (cp : List (List Int)), a ≤ b.length → Rn (b.take a) cp bg →
      E2 (fun K d => wc_l0 K b cuts (strOfNums (catL cs)) r.length d bg ag (strOfNums (catL cp)) (a : Int) (cuts.length : Int)) true := by
    intro a bg ag cp ha h
    obtain ⟨cs', r', h1, h2⟩ := next a (b.length - a) bg cp (by omega) h
    rw [show a + (b.length - a) = b.length by omega, List.take_of_length_le (Nat.le_refl _)] at h1 h2
    obtain ⟨ec, er⟩ := rn_det hR _ _ h2
    have hrm := room a bg cp (b.drop a) ha h (by rw [List.length_drop]; omega) (byte_drop hb _)
    obtain ⟨evs, ask, hE, hM⟩ := feed_rn bg (b.drop a) h1 hrm.1 hrm.2 ag
    have hcl := catlen b.length r (cp ++ cs') (Nat.le_refl _) (by rw [List.take_of_length_le (Nat.le_refl _), er]; exact h2)
    rw [catL_app, List.length_append] at hcl
    refine e2st (fun K d => by rw [wc_l0]) (e2no (Int.lt_irrefl _) (e2yes (show (0 : Int) ≤ (a : Int) ∧ (a : Int) ≤ (b.length : Int) from ⟨Int.natCast_nonneg _, Int.ofNat_le.2 ha⟩) ?_))
    rw [Int.toNat_natCast]
    refine e2bnd hE (e2bnd hM (e2yes ⟨rfl, ?_, ?_, ?_⟩ (e2fin rfl)))
    · rw [strOfNums_size, strOfNums_size]; omega
    · rw [str_append, ← catL_app, ec]
    · rw [er]
  induction dI with
  | zero =>
    intro i a bg ag cp hd hi ha h
    have e : i = cuts.length := by omega
    subst e; exact stop a bg ag cp ha h
  | succ dI ih =>
    intro i a bg ag cp hd hi ha h
    rcases Nat.lt_or_ge i cuts.length with hlt | hge
    · have hx := hc _ (rd_mem cuts i hlt)
      obtain ⟨m, hm, ham⟩ := piece_ok b hl a ha (rd cuts (i : Int)) hx
      have E1 := Aside0.mk (wadd i 1 (by omega))
      have E2 := Aside0.mk (wadd a m (by omega))
      have HM := Aside0.mk hm
      clear hm hx
      obtain ⟨cs', r', h1, h2⟩ := next a m bg cp ham h
      have hxl : ((b.take (a + m)).drop a).length = m := by rw [List.length_drop, List.length_take]; omega
      have hrm := room a bg cp ((b.take (a + m)).drop a) ha h (by omega) (byte_drop (byte_take hb _) _)
      obtain ⟨evs, ask, hE, hM⟩ := feed_rn bg ((b.take (a + m)).drop a) h1 hrm.1 hrm.2 ag
      have hcl := catlen (a + m) r' (cp ++ cs') ham h2
      rw [catL_app, List.length_append] at hcl
      have go := ih (i + 1) (a + m) r' ask (cp ++ cs') (by omega) hlt ham h2
      rw [catL_app, ← str_append] at go
      have c1 : (i : Int) < (cuts.length : Int) := Int.ofNat_lt.2 hlt
      have c2 : (0 : Int) ≤ (i : Int) ∧ 0 ≤ (a : Int) ∧ (a : Int) ≤ ((a + m : Nat) : Int) ∧ ((a + m : Nat) : Int) ≤ (b.length : Int) := ⟨Int.natCast_nonneg _, Int.natCast_nonneg _, Int.ofNat_le.2 (Nat.le_add_right _ _), Int.ofNat_le.2 ham⟩
      refine e2st (fun K d => by rw [wc_l0]) (e2yes c1 ?_)
      rw [HM.out, E2.out, show wrap64 ((i : Int) + 1) = ((i + 1 : Nat) : Int) from E1.out]
      refine e2yes c2 ?_
      rw [Int.toNat_natCast, Int.toNat_natCast]
      refine e2bnd hE (e2bnd hM (e2yes ⟨rfl, ?_⟩ go))
      rw [strOfNums_size, strOfNums_size]; omega
    · have e : i = cuts.length := by omega
      subst e; exact stop a bg ag cp ha h
end
theorem WireCuts : letterboxlaw18_WireCuts.Pure := by
  intro b cuts h0 h1 h2 h3 h4 h5
  have hb := byte_wf h2
  have hc := byte_wf h5
  refine Ev.rounds (g := fun k => wc_f k b cuts) ?_
  unfold wc_f
  by_cases hz : (b.length : Int) > 400 ∨ (cuts.length : Int) > 60
  · exact yes hz (fin rfl)
  · have hl : b.length ≤ 400 := by omega
    have hk : cuts.length ≤ 60 := by omega
    refine no hz ?_
    rcases rn_tot b.length b (Nat.le_refl _) with ⟨cs, r, hR⟩ | hR
    · obtain ⟨evs, ask, hE, hM⟩ := feed_rn [] b hR hb (by simp; omega) 0
      have go := e2ev (cuts_l0 b cuts hb hc hl hk cs r hR cuts.length 0 0 [] 0 [] (by omega) (Nat.zero_le _) (Nat.zero_le _) (.stop (.none (by simp))))
      exact bnd hE (bnd hM (no (show ¬ (true = false) from by decide) go))
    · obtain ⟨t, hE, hM⟩ := feed_rb [] b hR hb (by simp; omega) 0
      exact bnd hE (bnd hM (yes rfl (fin rfl)))
end Go.Proofs.Ytmdhggiffdkmfaa.Pure
