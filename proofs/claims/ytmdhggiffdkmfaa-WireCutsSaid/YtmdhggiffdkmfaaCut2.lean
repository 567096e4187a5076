/- What comes first of bytes that wait: by the lines alone. -/
import Derived.Test.YtmdhggiffdkmfaaCut1
import Derived.Test.YtmdhggiffdkmfaaPx6
import Derived.Test.YtmdhggiffdkmfaaPx6
set_option linter.unusedVariables false
set_option linter.unusedSimpArgs false
set_option linter.unusedSectionVars false
namespace Go.Proofs.Ytmdhggiffdkmfaa.Chars
open Go.RowKit Go.Proofs.Ytmdhggiffdkmfaa.P Go.Proofs.YtmdhggiffdkmfaaW.PrintWords Go.Proofs.YtmdhggiffdkmfaaW.PrintLast Go.Proofs.YtmdhggiffdkmfaaW.PrintMore Go.Proofs.Ytmdhggiffdkmfaa.Aids
/-- what holds of all great enough numbers of rounds, of both kinds -/
def E2 {α : Type} (g : Nat → Nat → Option α) (r : α) : Prop := ∃ N, ∀ K d, N ≤ K → N ≤ d → g K d = some r
section
variable {α β : Type} {r : α}
theorem e2st {g f : Nat → Nat → Option α} (h : ∀ K d, g K (d + 1) = f K d) (hf : E2 f r) : E2 g r := by
  obtain ⟨N, hN⟩ := hf
  refine ⟨N + 1, fun K d hK hd => ?_⟩
  obtain ⟨d', rfl⟩ : ∃ d', d = d' + 1 := ⟨d - 1, by omega⟩
  rw [h]; exact hN K d' (by omega) (by omega)
theorem e2yes {c : Prop} [Decidable c] {A B : Nat → Nat → Option α} (h : c) (hA : E2 A r) : E2 (fun K d => if c then A K d else B K d) r := by
  simp only [if_pos h]; exact hA
theorem e2no {c : Prop} [Decidable c] {A B : Nat → Nat → Option α} (h : ¬ c) (hB : E2 B r) : E2 (fun K d => if c then A K d else B K d) r := by
  simp only [if_neg h]; exact hB
theorem e2fin {x : α} (h : x = r) : E2 (fun _ _ => some x) r := ⟨0, fun _ _ _ _ => by rw [h]⟩
theorem e2bnd {g : Nat → Option β} {f : Nat → Nat → β → Option α} {a : β} (h : Ev g a) (k : E2 (fun K d => f K d a) r) : E2 (fun K d => (g K).bind (f K d)) r := by
  obtain ⟨N, hN⟩ := h
  obtain ⟨M, hM⟩ := k
  refine ⟨max N M, fun K d hK hd => ?_⟩
  show (g K).bind (f K d) = some r
  rw [hN K (by omega), Option.bind_some]
  exact hM K d (by omega) (by omega)
theorem e2ev {g : Nat → Nat → Option α} (h : E2 g r) : Ev (fun K => g K K) r := by
  obtain ⟨N, hN⟩ := h
  exact ⟨N, fun k hk => hN k k hk hk⟩
end
inductive Res
  | done (c : List Int) (n : Nat)
  | bad
  | wait
/-- where the line that begins at a place goes on; what its text ends in -/
def nx (b : List Int) (a : Nat) : Nat := a + ix 10 (b.drop a) + 1
noncomputable def tl (b : List Int) (a : Nat) : Int × Bool × Bool := tailT (lineT (b.drop a))
inductive Sc (b : List Int) : Nat → Res → Prop
  | none {a : Nat} (h : ¬ ix 10 (b.drop a) < (b.drop a).length) : Sc b a .wait
  | done {a : Nat} (h : ix 10 (b.drop a) < (b.drop a).length) (h2 : (tl b a).2.2 = false) : Sc b a (.done (b.take (a + (lineT (b.drop a)).length)) (nx b a))
  | bad {a : Nat} (h : ix 10 (b.drop a) < (b.drop a).length) (h2 : (tl b a).2.2 = true) (h3 : (tl b a).1 > 67108864) : Sc b a .bad
  | wait {a : Nat} (h : ix 10 (b.drop a) < (b.drop a).length) (h2 : (tl b a).2.2 = true) (h3 : ¬ (tl b a).1 > 67108864) (h4 : (nx b a : Int) + (tl b a).1 > (b.length : Int)) : Sc b a .wait
  | step {a : Nat} {r : Res} (h : ix 10 (b.drop a) < (b.drop a).length) (h2 : (tl b a).2.2 = true) (h3 : ¬ (tl b a).1 > 67108864) (h4 : ¬ (nx b a : Int) + (tl b a).1 > (b.length : Int)) (go : Sc b (nx b a + (tl b a).1.toNat) r) : Sc b a r
theorem nx_le {b : List Int} {a : Nat} (h : ix 10 (b.drop a) < (b.drop a).length) : a < nx b a ∧ nx b a ≤ b.length := by
  rw [List.length_drop] at h
  unfold nx; omega
theorem sc_det {b : List Int} {a : Nat} {r r' : Res} (h : Sc b a r) : Sc b a r' → r = r' := by
  induction h with
  | none h => intro h'; cases h' <;> first | rfl | contradiction
  | done h h2 => intro h'; cases h' <;> first | rfl | contradiction | (simp_all; done)
  | bad h h2 h3 => intro h'; cases h' <;> first | rfl | contradiction | (simp_all; done)
  | wait h h2 h3 h4 => intro h'; cases h' <;> first | rfl | contradiction | (simp_all; done)
  | step h h2 h3 h4 go ih =>
    intro h'
    cases h' with
    | none g => contradiction
    | done g g2 => rw [h2] at g2; cases g2
    | bad g g2 g3 => contradiction
    | wait g g2 g3 g4 => contradiction
    | step g g2 g3 g4 go' => exact ih go'
theorem sc_tot (b : List Int) (d : Nat) : ∀ a : Nat, b.length - a ≤ d → ∃ r, Sc b a r := by
  induction d with
  | zero =>
    intro a ha
    refine ⟨_, .none ?_⟩
    rw [List.length_drop]; omega
  | succ d ih =>
    intro a ha
    by_cases h : ix 10 (b.drop a) < (b.drop a).length
    · have hn := nx_le h
      by_cases h2 : (tl b a).2.2 = true
      · by_cases h3 : (tl b a).1 > 67108864
        · exact ⟨_, .bad h h2 h3⟩
        · by_cases h4 : (nx b a : Int) + (tl b a).1 > (b.length : Int)
          · exact ⟨_, .wait h h2 h3 h4⟩
          · obtain ⟨r, hr⟩ := ih (nx b a + (tl b a).1.toNat) (by omega)
            exact ⟨r, .step h h2 h3 h4 hr⟩
      · exact ⟨_, .done h (by simpa using h2)⟩
    · exact ⟨_, .none h⟩
theorem ix_app (c : Int) (x : List Int) : ∀ D : List Int, ix c D < D.length → ix c (D ++ x) = ix c D
  | [], h => by simp [ix] at h
  | y :: t, h => by
    rw [List.cons_append]
    unfold ix at h ⊢
    by_cases e : y = c
    · rw [if_pos e, if_pos e]
    · rw [if_neg e] at h ⊢
      rw [if_neg e, ix_app c x t (by simpa using h)]
theorem line_app (x D : List Int) (h : ix 10 D < D.length) : lineT (D ++ x) = lineT D := by
  unfold lineT
  rw [ix_app 10 x D h]
  have e1 : ∀ m, m ≤ D.length → (D ++ x).take m = D.take m := fun m hm => List.take_append_of_le_length hm
  rw [e1 _ (by omega), e1 _ (by omega)]
  by_cases h0 : 0 < ix 10 D
  · have : rd (D ++ x) ((ix 10 D - 1 : Nat) : Int) = rd D ((ix 10 D - 1 : Nat) : Int) := by
      rw [rd_at _ _ (by simp; omega), rd_at _ _ (by omega), List.getElem_append_left (by omega)]
    rw [this]
  · rw [if_neg (fun h => h0 h.1), if_neg (fun h => h0 h.1)]
theorem app_eq {b x : List Int} {a : Nat} (h : ix 10 (b.drop a) < (b.drop a).length) (ha : a ≤ b.length) :
    ix 10 ((b ++ x).drop a) = ix 10 (b.drop a) ∧ ix 10 ((b ++ x).drop a) < ((b ++ x).drop a).length ∧ nx (b ++ x) a = nx b a ∧ tl (b ++ x) a = tl b a ∧ (lineT ((b ++ x).drop a)).length = (lineT (b.drop a)).length := by
  have e : (b ++ x).drop a = b.drop a ++ x := List.drop_append_of_le_length ha
  have e1 := ix_app 10 x (b.drop a) h
  have e2 := line_app x (b.drop a) h
  unfold nx tl
  rw [e, e1, e2]
  exact ⟨rfl, by rw [List.length_append]; omega, rfl, rfl, rfl⟩
theorem tl_ge (b : List Int) (hb : byte b) (hl : b.length ≤ 1000) (a : Nat) : 0 ≤ (tl b a).1 ∧ Ev (fun k => wire_tail.f k (strOfNums (lineT (b.drop a)))) (tl b a) :=
  tailT_ok _ (lineT_byte _ (byte_drop hb _)) (by have := lineT_len (b.drop a); simp at this; omega)
theorem sc_app {b : List Int} (x : List Int) {a : Nat} {r : Res} (h : Sc b a r) (hb : byte b) (hl : b.length ≤ 1000) : a ≤ b.length → r ≠ .wait → Sc (b ++ x) a r := by
  induction h with
  | none h => intro _ h'; exact absurd rfl h'
  | @done a h h2 =>
    intro ha _
    obtain ⟨e1, e2, e3, e4, e5⟩ := app_eq (x := x) h ha
    have hn := nx_le h
    have hll : (lineT (b.drop a)).length ≤ (b.drop a).length := lineT_len _
    rw [List.length_drop] at hll
    have := Sc.done (b := b ++ x) (a := a) e2 (by rw [e4]; exact h2)
    rw [e5, e3, List.take_append_of_le_length (by omega)] at this
    exact this
  | bad h h2 h3 =>
    intro ha _
    obtain ⟨e1, e2, e3, e4, e5⟩ := app_eq (x := x) h ha
    exact .bad e2 (by rw [e4]; exact h2) (by rw [e4]; exact h3)
  | wait h h2 h3 h4 => intro _ h'; exact absurd rfl h'
  | @step a r h h2 h3 h4 go ih =>
    intro ha hr
    obtain ⟨e1, e2, e3, e4, e5⟩ := app_eq (x := x) h ha
    have hg := (tl_ge b hb hl a).1
    refine .step e2 (by rw [e4]; exact h2) (by rw [e4]; exact h3) (by rw [e3, e4, List.length_append]; omega) ?_
    rw [e3, e4]
    exact ih (by omega) hr
theorem sc_pos {b : List Int} {a : Nat} {r : Res} (h : Sc b a r) : ∀ c n, r = .done c n → a < n ∧ n ≤ b.length := by
  induction h with
  | none h => intro c n e; cases e
  | done h h2 => intro c n e; cases e; exact nx_le h
  | bad h h2 h3 => intro c n e; cases e
  | wait h h2 h3 h4 => intro c n e; cases e
  | step h h2 h3 h4 go ih =>
    intro c n e
    have := ih c n e
    have := nx_le h
    omega
theorem sc_bad {b : List Int} {a : Nat} {r : Res} (h : Sc b a r) : r = .bad → 0 < b.length := by
  induction h with
  | none h => intro e; cases e
  | done h h2 => intro e; cases e
  | bad h h2 h3 => intro _; have := nx_le h; omega
  | wait h h2 h3 h4 => intro e; cases e
  | step h h2 h3 h4 go ih => exact ih
theorem sc_cut {b : List Int} {a : Nat} {r : Res} (h : Sc b a r) : ∀ c n, r = .done c n → ∃ m, c = b.take m := by
  induction h with
  | none h => intro c n e; cases e
  | done h h2 => intro c n e; cases e; exact ⟨_, rfl⟩
  | bad h h2 h3 => intro c n e; cases e
  | wait h h2 h3 h4 => intro c n e; cases e
  | step h h2 h3 h4 go ih => exact ih
def Said (b : List Int) (asked : Int) (r : Res) (x : S33 × Int × Bool × Int) : Prop :=
  match r with
  | .done c n => x = (⟨2, c⟩, (n : Int), true, asked)
  | .bad => x = (⟨3, []⟩, (b.length : Int), true, asked)
  | .wait => x.2.2.1 = false ∧ x.2.2.2 = asked
theorem fr_sc (b : List Int) (hb : byte b) (hl : b.length ≤ 1000) (asked : Int) {a : Nat} {r : Res} (h : Sc b a r) : a ≤ b.length → ∀ size : Int, 0 ≤ size → size ≤ (a : Int) →
    ∃ x, E2 (fun K d => fr_l0 K d b asked (a : Int) size) x ∧ (Said b asked r x ∨ asked < (b.length : Int) ∧ x = (⟨1, []⟩, 0, true, (b.length : Int))) := by
  have line : ∀ (a : Nat) (ha : a ≤ b.length) (h : ix 10 (b.drop a) < (b.drop a).length) (size : Int) (h0 : 0 ≤ size) (h1 : size ≤ (a : Int)) (x : S33 × Int × Bool × Int),
      E2 (fun K d => if (tl b a).2.2 = false then
          (if 0 ≤ ((a + (lineT (b.drop a)).length : Nat) : Int) then (if ((a + (lineT (b.drop a)).length : Nat) : Int) ≤ (b.length : Int) then some ((⟨2, b.take (a + (lineT (b.drop a)).length)⟩ : S33), ((nx b a : Nat) : Int), true, asked) else none) else none)
        else if (tl b a).1 > 67108864 then some (⟨3, []⟩, (b.length : Int), true, asked)
        else if (tl b a).2.1 = true ∧ ((nx b a : Nat) : Int) = (b.length : Int) ∧ asked < ((nx b a : Nat) : Int) then some (⟨1, []⟩, 0, true, ((nx b a : Nat) : Int))
        else if wrap64 (((nx b a : Nat) : Int) + (tl b a).1) > (b.length : Int) then some (⟨0, []⟩, 0, false, asked)
        else fr_l0 K d b asked (wrap64 (((nx b a : Nat) : Int) + (tl b a).1)) (size + (((nx b a : Nat) : Int) - (a : Int)))) x → E2 (fun K d => fr_l0 K d b asked (a : Int) size) x := by
    intro a ha h size h0 h1 x hx
    have he := ends_ok b a ha (by omega)
    rw [if_pos h, show a + ix 10 (b.drop a) + 1 = nx b a from rfl] at he
    have hn := nx_le h
    have hll : (lineT (b.drop a)).length ≤ (b.drop a).length := lineT_len _
    rw [List.length_drop] at hll
    have hT := (tl_ge b hb hl a).2
    generalize tl b a = T at hT hx
    generalize nx b a = n at hn hx he
    have hsz : ¬ (size + ((n : Int) - (a : Int)) > 65536) := by clear hx he hT h; omega
    have e1 : wrap64 ((n : Int) - (a : Int)) = (n : Int) - (a : Int) := by clear hx he hT h; exact w64 (by omega) (by omega)
    have e2 : wrap64 (size + ((n : Int) - (a : Int))) = size + ((n : Int) - (a : Int)) := by clear hx he hT h e1; exact w64 (by omega) (by omega)
    have e3 : wrap64 ((a : Int) + ((strOfNums (lineT (b.drop a))).size : Int)) = ((a + (lineT (b.drop a)).length : Nat) : Int) := by
      clear hx he hT h e1 e2 hsz
      generalize lineT (b.drop a) = t at hll ⊢
      rw [strOfNums_size, w64 (by omega) (by omega)]; omega
    refine e2st (fun K d => by rw [fr_l0]) (e2bnd he ?_)
    refine e2no (show ¬ (true = false) from by decide) ?_
    rw [e1, e2]
    refine e2no hsz (e2bnd hT ?_)
    rw [e3, Int.toNat_natCast]
    exact hx
  induction h with
  | @none a h =>
    intro ha size h0 h1
    have he := ends_ok b a ha (by omega)
    rw [if_neg h] at he
    refine ⟨(⟨3, []⟩, (b.length : Int), false, asked), e2st (fun K d => by rw [fr_l0]) (e2bnd he (e2yes rfl (e2no ?_ (e2fin rfl)))), .inl ⟨rfl, rfl⟩⟩
    rw [w64 (x := size + (b.length : Int)) (by omega) (by omega), w64 (by omega) (by omega)]; omega
  | @done a h h2 =>
    intro ha size h0 h1
    have hll : (lineT (b.drop a)).length ≤ (b.drop a).length := lineT_len _
    rw [List.length_drop] at hll
    exact ⟨_, line a ha h size h0 h1 _ (e2yes h2 (e2yes (by omega) (e2yes (by omega) (e2fin rfl)))), .inl rfl⟩
  | @bad a h h2 h3 =>
    intro ha size h0 h1
    exact ⟨_, line a ha h size h0 h1 _ (e2no (by rw [h2]; decide) (e2yes h3 (e2fin rfl))), .inl rfl⟩
  | @wait a h h2 h3 h4 =>
    intro ha size h0 h1
    have hn := nx_le h
    have hg := (tl_ge b hb hl a).1
    have e4 : wrap64 (((nx b a : Nat) : Int) + (tl b a).1) = ((nx b a : Nat) : Int) + (tl b a).1 := w64 (by omega) (by omega)
    by_cases hq : (tl b a).2.1 = true ∧ ((nx b a : Nat) : Int) = (b.length : Int) ∧ asked < ((nx b a : Nat) : Int)
    · exact ⟨_, line a ha h size h0 h1 _ (e2no (by rw [h2]; decide) (e2no h3 (e2yes hq (e2fin rfl)))), .inr ⟨by omega, by rw [hq.2.1]⟩⟩
    · exact ⟨_, line a ha h size h0 h1 _ (e2no (by rw [h2]; decide) (e2no h3 (e2no hq (e2yes (by rw [e4]; exact h4) (e2fin rfl))))), .inl ⟨rfl, rfl⟩⟩
  | @step a r h h2 h3 h4 go ih =>
    intro ha size h0 h1
    have hn := nx_le h
    have hg := (tl_ge b hb hl a).1
    have e4 : wrap64 (((nx b a : Nat) : Int) + (tl b a).1) = ((nx b a : Nat) : Int) + (tl b a).1 := w64 (by omega) (by omega)
    have e5 : ((nx b a : Nat) : Int) + (tl b a).1 = ((nx b a + (tl b a).1.toNat : Nat) : Int) := by omega
    by_cases hq : (tl b a).2.1 = true ∧ ((nx b a : Nat) : Int) = (b.length : Int) ∧ asked < ((nx b a : Nat) : Int)
    · exact ⟨_, line a ha h size h0 h1 _ (e2no (by rw [h2]; decide) (e2no h3 (e2yes hq (e2fin rfl)))), .inr ⟨by omega, by rw [hq.2.1]⟩⟩
    · obtain ⟨x, hx, hs⟩ := ih (by omega) (size + (((nx b a : Nat) : Int) - (a : Int))) (by omega) (by omega)
      refine ⟨x, line a ha h size h0 h1 _ (e2no (by rw [h2]; decide) (e2no h3 (e2no hq (e2no (by rw [e4]; exact h4) ?_)))), hs⟩
      rw [e4, e5]; exact hx
end Go.Proofs.Ytmdhggiffdkmfaa.Chars
