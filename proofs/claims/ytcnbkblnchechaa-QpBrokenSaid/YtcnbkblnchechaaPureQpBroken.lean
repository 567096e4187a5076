/- The law QpBroken holds of any two rows of bytes and any byte between: a sign without two digits behind it, and a byte that isn't printed, break a text. No condition. -/
import Derived.Test.YtcnbkblnchechaaEnc
import Derived.Test.YtcnbkblnchechaaPx10
set_option linter.unusedVariables false
namespace Go.Proofs.Ytcnbkblnchechaa.Pure
open Go.RowKit Go.Proofs.Ytcnbkblnchechaa.P Go.Proofs.YtcnbkblnchechaaW.PrintWords Go.Proofs.YtcnbkblnchechaaW.PrintLast Go.Proofs.Ytcnbkblnchechaa.Aids Go.Proofs.Ytcnbkblnchechaa.Qp

theorem not10 {l : List Int} (h : ∀ x ∈ l, 33 ≤ x ∧ x ≤ 126) : ∀ x ∈ l, x ≠ 10 := fun x hx => by have := h x hx; omega
/-- what becomes of the text -/
theorem broken_dec (a b : List Int) (c : Int) (ha : ∀ x ∈ a, 0 ≤ x ∧ x ≤ 255) (hb : ∀ x ∈ b, 0 ≤ x ∧ x ≤ 255) :
    (decS (encS a ++ [c] ++ [120] ++ encS b)).isSome = decide (c = 10 ∨ (c ≠ 61 ∧ plain c)) := by
  have hcb : ∀ x ∈ (120 : Int) :: encS b, 33 ≤ x ∧ x ≤ 126 := by
    intro x hx
    rcases List.mem_cons.1 hx with rfl | hx
    · omega
    · exact encS_chars hb x hx
  have hxb : encS (120 :: b) = 120 :: encS b := rfl
  have hb2 : ∀ x ∈ (120 : Int) :: b, 0 ≤ x ∧ x ≤ 255 := by
    intro x hx
    rcases List.mem_cons.1 hx with rfl | hx
    · omega
    · exact hb x hx
  have e : encS a ++ [c] ++ [120] ++ encS b = encS a ++ c :: 120 :: encS b := by simp
  rw [e]
  by_cases h10 : c = 10
  · subst h10
    rw [decS_lf _ _ (not10 (encS_chars ha))]
    have c1 := clean_end (encS_last ha) (crs (encS a) ++ [10])
    rw [c1.2.1, c1.1, c1.2.2.2, readS_enc_all a ha, ← hxb, decS_no _ (not10 (by rw [hxb]; exact hcb))]
    have c2 := clean_end (encS_last hb2) []
    rw [c2.1, c2.2.2.2, readS_enc_all _ hb2]
    simp
  · have h10' : ∀ x ∈ encS a ++ c :: 120 :: encS b, x ≠ 10 := by
      intro x hx
      rcases List.mem_append.1 hx with hx | hx
      · exact not10 (encS_chars ha) x hx
      · rcases List.mem_cons.1 hx with rfl | hx
        · exact h10
        · exact not10 hcb x hx
    rw [decS_no _ h10']
    have hl : ∃ m z, encS a ++ c :: 120 :: encS b = m ++ [z] ∧ z ≠ 61 ∧ 33 ≤ z ∧ z ≤ 126 := by
      rcases encS_last hb2 with h | ⟨m, z, h, h1⟩
      · rw [hxb] at h; cases h
      · rw [hxb] at h
        exact ⟨encS a ++ c :: m, z, by rw [h]; simp, h1⟩
    have c1 := clean_end (.inr hl) []
    rw [c1.1, c1.2.2.2, readS_enc a ha]
    by_cases h61 : c = 61
    · subst h61
      have : readS (61 :: 120 :: encS b) = none := by
        rcases hE : encS b with _ | ⟨y, u⟩
        · rw [readS_short _ (by simp)]
        · rw [readS_hex, show V 120 = none from by decide]; rfl
      rw [this]; simp
    · by_cases hp : plain c
      · rw [readS_plain _ h61 hp, ← hxb, readS_enc_all _ hb2]
        simp [h61, hp]
      · rw [readS_bad _ h61 hp]
        simp [h10, hp]
theorem told_snd (o : Option (List Int)) : (told [] o).2 = o.isSome := by cases o <;> rfl
theorem QpBroken : letterboxlaw03_QpBroken.Pure := by
  intro a b c _ _ h3 _ _ h6 h7
  have ha : ∀ y ∈ a, 0 ≤ y ∧ y ≤ 255 := fun y hy => wf_u8 (h3 y hy)
  have hb : ∀ y ∈ b, 0 ≤ y ∧ y ≤ 255 := fun y hy => wf_u8 (h6 y hy)
  have hc := wf_u8 h7
  refine Ev.rounds (g := fun k => letterboxlaw03_QpBroken.f k a b c) ?_
  show Ev (fun k => (letterboxlaw03_awake.f).bind _) _
  refine bs ?_
  refine yes rfl ?_
  have j0 : ∀ v, (v = false → a.length ≤ 60 ∧ b.length ≤ 60) → Ev (fun k => letterboxlaw03_QpBroken.j0 k a b c v) true := by
    intro v hv
    refine st (fun k => by rw [letterboxlaw03_QpBroken.j0]) ?_
    cases v with
    | true => exact yes rfl (fin rfl)
    | false =>
      have hl := hv rfl
      have la := encS_len a
      have lb := encS_len b
      refine no (by simp) (bnd (enc_eq a (by omega) ha) (yes (by simp; omega) (bs (yes (by simp; omega) (bs (yes (by simp; omega) (bs (bnd (enc_eq b (by omega) hb) (yes (by simp; omega) ?_)))))))))
      rw [List.nil_append]
      have hm : ∀ x ∈ encS a ++ [c] ++ [120] ++ encS b, 0 ≤ x ∧ x ≤ 255 := by
        intro x hx
        simp only [List.mem_append, List.mem_singleton] at hx
        rcases hx with ((hx | rfl) | rfl) | hx
        · have := encS_chars ha x hx; omega
        · exact hc
        · omega
        · have := encS_chars hb x hx; omega
      refine bnd (dec_eq _ (by simp; omega) hm) ?_
      rw [told_snd, broken_dec a b c ha hb]
      by_cases h61 : c = 61
      · refine yes h61 (fin ?_)
        simp [h61]
      · refine no h61 ?_
        by_cases h9 : c = 9
        · exact yes h9 (fin (by simp [h9, plain]))
        · refine no h9 ?_
          by_cases h10 : c = 10
          · exact yes h10 (fin (by simp [h10]))
          · refine no h10 ?_
            by_cases h32 : c ≥ 32
            · refine yes h32 (fin ?_)
              have : plain c ↔ c < 127 := by unfold plain; omega
              simp [h10, h61, this]
            · refine no h32 (fin ?_)
              have : ¬ plain c := by unfold plain; omega
              simp [h10, this]
  by_cases h60 : (a.length : Int) > 60
  · exact yes h60 (j0 true (fun h => by cases h))
  · exact no h60 (j0 _ (fun h => by have := of_decide_eq_false h; omega))
end Go.Proofs.Ytcnbkblnchechaa.Pure
