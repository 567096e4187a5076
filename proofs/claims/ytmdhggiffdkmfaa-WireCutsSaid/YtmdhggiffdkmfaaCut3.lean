/- Bytes that are fed in pieces: the same commands come of them. -/
import Derived.Test.YtmdhggiffdkmfaaCut2
set_option linter.unusedVariables false
set_option linter.unusedSimpArgs false
set_option linter.unusedSectionVars false
namespace Go.Proofs.Ytmdhggiffdkmfaa.Chars
open Go.RowKit Go.Proofs.Ytmdhggiffdkmfaa.P Go.Proofs.YtmdhggiffdkmfaaW.PrintWords Go.Proofs.YtmdhggiffdkmfaaW.PrintLast Go.Proofs.YtmdhggiffdkmfaaW.PrintMore Go.Proofs.Ytmdhggiffdkmfaa.Aids
inductive Rn : List Int → List (List Int) → List Int → Prop
  | stop {b : List Int} (h : Sc b 0 .wait) : Rn b [] b
  | next {b c : List Int} {n : Nat} {cs : List (List Int)} {r : List Int} (h : Sc b 0 (.done c n)) (t : Rn (b.drop n) cs r) : Rn b (c :: cs) r
inductive Rb : List Int → Prop
  | now {b : List Int} (h : Sc b 0 .bad) : Rb b
  | later {b c : List Int} {n : Nat} (h : Sc b 0 (.done c n)) (t : Rb (b.drop n)) : Rb b
theorem rn_tot (d : Nat) : ∀ b : List Int, b.length ≤ d → (∃ cs r, Rn b cs r) ∨ Rb b := by
  induction d with
  | zero =>
    intro b hb
    have e : b = [] := List.length_eq_zero_iff.1 (by omega)
    subst e
    exact .inl ⟨_, _, .stop (.none (by simp))⟩
  | succ d ih =>
    intro b hb
    obtain ⟨r, hr⟩ := sc_tot b b.length 0 (by omega)
    cases r with
    | wait => exact .inl ⟨_, _, .stop hr⟩
    | bad => exact .inr (.now hr)
    | done c n =>
      have hp := sc_pos hr c n rfl
      rcases ih (b.drop n) (by rw [List.length_drop]; omega) with ⟨cs, r, h⟩ | h
      · exact .inl ⟨_, _, .next hr h⟩
      · exact .inr (.later hr h)
theorem rn_det {b : List Int} {cs : List (List Int)} {r : List Int} (h : Rn b cs r) : ∀ cs' r', Rn b cs' r' → cs = cs' ∧ r = r' := by
  induction h with
  | stop h =>
    intro cs' r' h'
    cases h' with
    | stop g => exact ⟨rfl, rfl⟩
    | next g t => cases sc_det h g
  | next h t ih =>
    intro cs' r' h'
    cases h' with
    | stop g => cases sc_det h g
    | next g t' =>
      cases sc_det h g
      obtain ⟨rfl, rfl⟩ := ih _ _ t'
      exact ⟨rfl, rfl⟩
theorem rn_rb {b : List Int} {cs : List (List Int)} {r : List Int} (h : Rn b cs r) : ¬ Rb b := by
  induction h with
  | stop h =>
    intro h'
    cases h' with
    | now g => cases sc_det h g
    | later g t => cases sc_det h g
  | next h t ih =>
    intro h'
    cases h' with
    | now g => cases sc_det h g
    | later g t' => cases sc_det h g; exact ih t'
section
variable (x : List Int)
theorem rn_app {p : List Int} {cs : List (List Int)} {r : List Int} (h : Rn p cs r) : byte p → p.length ≤ 1000 → ∀ cs' r', Rn (r ++ x) cs' r' → Rn (p ++ x) (cs ++ cs') r' := by
  induction h with
  | stop h => intro _ _ cs' r' h'; exact h'
  | @next b c n cs r h t ih =>
    intro hb hl cs' r' h'
    have hp := sc_pos h c n rfl
    refine .next (sc_app x h hb hl (Nat.zero_le _) (fun e => by cases e)) ?_
    rw [List.drop_append_of_le_length hp.2]
    exact ih (byte_drop hb _) (by rw [List.length_drop]; omega) cs' r' h'
theorem rn_rb_app {p : List Int} {cs : List (List Int)} {r : List Int} (h : Rn p cs r) : byte p → p.length ≤ 1000 → Rb (r ++ x) → Rb (p ++ x) := by
  induction h with
  | stop h => intro _ _ h'; exact h'
  | @next b c n cs r h t ih =>
    intro hb hl h'
    have hp := sc_pos h c n rfl
    refine .later (sc_app x h hb hl (Nat.zero_le _) (fun e => by cases e)) ?_
    rw [List.drop_append_of_le_length hp.2]
    exact ih (byte_drop hb _) (by rw [List.length_drop]; omega) h'
theorem rb_app {p : List Int} (h : Rb p) : byte p → p.length ≤ 1000 → Rb (p ++ x) := by
  induction h with
  | now h => intro hb hl; exact .now (sc_app x h hb hl (Nat.zero_le _) (fun e => by cases e))
  | @later b c n h t ih =>
    intro hb hl
    have hp := sc_pos h c n rfl
    refine .later (sc_app x h hb hl (Nat.zero_le _) (fun e => by cases e)) ?_
    rw [List.drop_append_of_le_length hp.2]
    exact ih (byte_drop hb _) (by rw [List.length_drop]; omega)
end
theorem rn_suf {p : List Int} {cs : List (List Int)} {r : List Int} (h : Rn p cs r) : ∃ m, r = p.drop m := by
  induction h with
  | stop h => exact ⟨0, rfl⟩
  | next h t ih =>
    obtain ⟨m, e⟩ := ih
    exact ⟨_, by rw [e, List.drop_drop]⟩
def catC : List S33 → List Int
  | [] => []
  | e :: t => (if e.f0 = 2 then e.f1 ++ [0, 10] else []) ++ catC t
def catL : List (List Int) → List Int
  | [] => []
  | c :: t => (c ++ [0, 10]) ++ catL t
theorem catL_app : ∀ a b : List (List Int), catL (a ++ b) = catL a ++ catL b
  | [], b => rfl
  | c :: t, b => by rw [List.cons_append, catL, catL, catL_app t b]; simp
theorem rn_len {p : List Int} {cs : List (List Int)} {r : List Int} (h : Rn p cs r) : p.length ≤ 1000 → (catL cs).length ≤ 1002 * p.length := by
  induction h with
  | stop h => intro _; exact Nat.zero_le _
  | @next b c n cs r h t ih =>
    intro hl
    have hp := sc_pos h c n rfl
    obtain ⟨m, e⟩ := sc_cut h c n rfl
    have h1 := ih (by rw [List.length_drop]; omega)
    rw [List.length_drop] at h1
    have h2 : c.length ≤ b.length := by rw [e, List.length_take]; omega
    rw [catL, List.length_append, List.length_append]
    simp only [List.length_cons, List.length_nil]
    omega
/-- one round of Feed -/
theorem fd_step (b : List Int) (hl : b.length ≤ 1000) (asked : Int) (out : List S33) (ho : out.length ≤ 100000) (x : S33 × Int × Bool × Int) (hx : Ev (fun K => fr_first K b asked) x) (R : List S33 × List Int × Int)
    (h : E2 (fun K d => if x.2.2.1 = false then some (out, b, x.2.2.2) else if x.2.1 > 0 then (if x.2.1 ≤ (b.length : Int) then fd_l0 K d (b.drop x.2.1.toNat) 0 (out ++ [x.1]) else none) else fd_l0 K d b x.2.2.2 (out ++ [x.1])) R) :
    E2 (fun K d => fd_l0 K d b asked out) R :=
  e2st (fun K d => by rw [fd_l0]) (e2yes (show b.length ≤ 100000000 ∧ out.length ≤ 100000000 from ⟨by omega, by omega⟩) (e2bnd hx h))
theorem fd_go (b : List Int) (hb : byte b) (hl : b.length ≤ 1000) {r : Res} (hS : Sc b 0 r) (asked : Int) (out : List S33) (ho : out.length + 1 ≤ 100000) :
    ∃ evs0 asked0 x, (evs0 = [] ∨ evs0 = [(⟨1, []⟩ : S33)]) ∧ Said b asked0 r x ∧ ∀ R, E2 (fun K d => if x.2.2.1 = false then some (out ++ evs0, b, x.2.2.2) else if x.2.1 > 0 then (if x.2.1 ≤ (b.length : Int) then fd_l0 K d (b.drop x.2.1.toNat) 0 ((out ++ evs0) ++ [x.1]) else none) else fd_l0 K d b x.2.2.2 ((out ++ evs0) ++ [x.1])) R → E2 (fun K d => fd_l0 K d b asked out) R := by
  have first : ∀ asked x, E2 (fun K d => fr_l0 K d b asked ((0 : Nat) : Int) 0) x → Ev (fun K => fr_first K b asked) x := fun asked x h => e2ev (g := fun K d => fr_l0 K d b asked 0 0) h
  obtain ⟨x, hx, hs⟩ := fr_sc b hb hl asked hS (Nat.zero_le _) 0 (Int.le_refl _) (Int.le_refl _)
  rcases hs with hs | ⟨ha, e⟩
  · exact ⟨[], asked, x, .inl rfl, hs, fun R hR => fd_step b hl asked out (by omega) x (first _ _ hx) R (by rw [List.append_nil] at hR; exact hR)⟩
  · obtain ⟨y, hy, hs⟩ := fr_sc b hb hl (b.length : Int) hS (Nat.zero_le _) 0 (Int.le_refl _) (Int.le_refl _)
    have hs := hs.resolve_right (fun h => absurd h.1 (by omega))
    refine ⟨[⟨1, []⟩], (b.length : Int), y, .inr rfl, hs, fun R hR => ?_⟩
    refine fd_step b hl asked out (by omega) x (first _ _ hx) R ?_
    subst e
    refine e2no (show ¬ (true = false) from by decide) (e2no (show ¬ ((0 : Int) > 0) from by decide) ?_)
    exact fd_step b hl (b.length : Int) (out ++ [⟨1, []⟩]) (by simp; omega) y (first _ _ hy) R hR
theorem catC_app : ∀ a b : List S33, catC (a ++ b) = catC a ++ catC b
  | [], b => rfl
  | c :: t, b => by rw [List.cons_append, catC, catC, catC_app t b, List.append_assoc]
def okE (evs : List S33) (n : Nat) : Prop := (∀ e ∈ evs, e.f1.length ≤ 1000) ∧ evs.length ≤ n
theorem okE_go {evs0 : List S33} (h : evs0 = [] ∨ evs0 = [(⟨1, []⟩ : S33)]) : okE evs0 1 ∧ (∀ e ∈ evs0, e.f0 = 1 ∨ e.f0 = 2) ∧ catC evs0 = [] := by
  rcases h with rfl | rfl
  · exact ⟨⟨fun e he => absurd he (by simp), by simp⟩, fun e he => absurd he (by simp), rfl⟩
  · exact ⟨⟨fun e he => by rw [List.mem_singleton.1 he]; simp, by simp⟩, fun e he => by rw [List.mem_singleton.1 he]; exact .inl rfl, rfl⟩
theorem fd_rn {b : List Int} {cs : List (List Int)} {r : List Int} (h : Rn b cs r) : byte b → b.length ≤ 1000 → ∀ (asked : Int) (out : List S33), out.length + 2 * b.length + 2 ≤ 100000 →
    ∃ evs ask, E2 (fun K d => fd_l0 K d b asked out) (out ++ evs, r, ask) ∧ okE evs (2 * b.length + 1) ∧ (∀ e ∈ evs, e.f0 = 1 ∨ e.f0 = 2) ∧ catC evs = catL cs := by
  induction h with
  | @stop b h =>
    intro hb hl asked out ho
    obtain ⟨evs0, asked0, x, h0, hs, go⟩ := fd_go b hb hl h asked out (by omega)
    obtain ⟨o1, o2, o3⟩ := okE_go h0
    exact ⟨evs0, x.2.2.2, go _ (e2yes hs.1 (e2fin rfl)), ⟨o1.1, by have := o1.2; omega⟩, o2, o3⟩
  | @next b c n cs r h t ih =>
    intro hb hl asked out ho
    have hp := sc_pos h c n rfl
    obtain ⟨evs0, asked0, x, h0, hs, go⟩ := fd_go b hb hl h asked out (by omega)
    obtain ⟨o1, o2, o3⟩ := okE_go h0
    obtain ⟨m, ec⟩ := sc_cut h c n rfl
    have hx : x = (⟨2, c⟩, (n : Int), true, asked0) := hs
    subst hx
    have o4 := o1.2
    obtain ⟨evs, ask, hE, k1, k2, k3⟩ := ih (byte_drop hb _) (by rw [List.length_drop]; omega) 0 ((out ++ evs0) ++ [⟨2, c⟩]) (by rw [List.length_drop]; simp; omega)
    refine ⟨(evs0 ++ [⟨2, c⟩]) ++ evs, ask, go _ (e2no (show ¬ (true = false) from by decide) (e2yes (show (n : Int) > 0 by omega) (e2yes (show (n : Int) ≤ (b.length : Int) by omega) ?_))), ⟨?_, ?_⟩, ?_, ?_⟩
    · rw [show ((n : Int)).toNat = n from Int.toNat_natCast n, show out ++ ((evs0 ++ [(⟨2, c⟩ : S33)]) ++ evs) = ((out ++ evs0) ++ [⟨2, c⟩]) ++ evs by simp]
      exact hE
    · intro e he
      rcases List.mem_append.1 he with he | he
      · rcases List.mem_append.1 he with he | he
        · exact o1.1 e he
        · rw [List.mem_singleton.1 he, ec]; simp; omega
      · exact k1.1 e he
    · have := k1.2
      rw [List.length_drop] at this
      simp; omega
    · intro e he
      rcases List.mem_append.1 he with he | he
      · rcases List.mem_append.1 he with he | he
        · exact o2 e he
        · rw [List.mem_singleton.1 he]; exact .inr rfl
      · exact k2 e he
    · rw [catC_app, catC_app, o3, k3]
      show [] ++ ((if (2 : Int) = 2 then c ++ [0, 10] else []) ++ []) ++ catL cs = catL (c :: cs)
      rw [if_pos rfl, catL]; simp
theorem fd_rb {b : List Int} (h : Rb b) : byte b → b.length ≤ 1000 → ∀ (asked : Int) (out : List S33), out.length + 2 * b.length + 4 ≤ 100000 →
    ∃ evs r ask, E2 (fun K d => fd_l0 K d b asked out) (out ++ evs, r, ask) ∧ okE evs (2 * b.length + 3) ∧ ∃ e ∈ evs, e.f0 = 3 := by
  induction h with
  | @now b h =>
    intro hb hl asked out ho
    have hp := sc_bad h rfl
    obtain ⟨evs0, asked0, x, h0, hs, go⟩ := fd_go b hb hl h asked out (by omega)
    obtain ⟨o1, o2, o3⟩ := okE_go h0
    have hx : x = (⟨3, []⟩, (b.length : Int), true, asked0) := hs
    subst hx
    have o4 := o1.2
    obtain ⟨evs, ask, hE, k1, k2, k3⟩ := fd_rn (b := []) (.stop (.none (by simp))) byte_nil (by simp) 0 ((out ++ evs0) ++ [⟨3, []⟩]) (by simp; omega)
    refine ⟨(evs0 ++ [⟨3, []⟩]) ++ evs, [], ask, go _ (e2no (show ¬ (true = false) from by decide) (e2yes (show (b.length : Int) > 0 by omega) (e2yes (show (b.length : Int) ≤ (b.length : Int) by omega) ?_))), ⟨?_, ?_⟩, ⟨⟨3, []⟩, by simp, rfl⟩⟩
    · rw [show ((b.length : Int)).toNat = b.length from Int.toNat_natCast _, List.drop_eq_nil_of_le (Nat.le_refl _), show out ++ ((evs0 ++ [(⟨3, []⟩ : S33)]) ++ evs) = ((out ++ evs0) ++ [⟨3, []⟩]) ++ evs by simp]
      exact hE
    · intro e he
      rcases List.mem_append.1 he with he | he
      · rcases List.mem_append.1 he with he | he
        · exact o1.1 e he
        · rw [List.mem_singleton.1 he]; simp
      · exact k1.1 e he
    · have := k1.2
      simp at this ⊢; omega
  | @later b c n h t ih =>
    intro hb hl asked out ho
    have hp := sc_pos h c n rfl
    obtain ⟨evs0, asked0, x, h0, hs, go⟩ := fd_go b hb hl h asked out (by omega)
    obtain ⟨o1, o2, o3⟩ := okE_go h0
    obtain ⟨m, ec⟩ := sc_cut h c n rfl
    have hx : x = (⟨2, c⟩, (n : Int), true, asked0) := hs
    subst hx
    have o4 := o1.2
    obtain ⟨evs, r, ask, hE, k1, e3, k2, k3⟩ := ih (byte_drop hb _) (by rw [List.length_drop]; omega) 0 ((out ++ evs0) ++ [⟨2, c⟩]) (by rw [List.length_drop]; simp; omega)
    refine ⟨(evs0 ++ [⟨2, c⟩]) ++ evs, r, ask, go _ (e2no (show ¬ (true = false) from by decide) (e2yes (show (n : Int) > 0 by omega) (e2yes (show (n : Int) ≤ (b.length : Int) by omega) ?_))), ⟨?_, ?_⟩, ⟨e3, List.mem_append_right _ k2, k3⟩⟩
    · rw [show ((n : Int)).toNat = n from Int.toNat_natCast n, show out ++ ((evs0 ++ [(⟨2, c⟩ : S33)]) ++ evs) = ((out ++ evs0) ++ [⟨2, c⟩]) ++ evs by simp]
      exact hE
    · intro e he
      rcases List.mem_append.1 he with he | he
      · rcases List.mem_append.1 he with he | he
        · exact o1.1 e he
        · rw [List.mem_singleton.1 he, ec]; simp; omega
      · exact k1.1 e he
    · have := k1.2
      rw [List.length_drop] at this
      simp; omega
end Go.Proofs.Ytmdhggiffdkmfaa.Chars
