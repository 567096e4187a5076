/- The law SeqsetParses holds: the program's set of any text and the document's are the same, and so is what they have. -/
import Derived.Test.YtimnfkmjdnmdeaaHas
import Derived.Test.YtimnfkmjdnmdeaaPx6
set_option linter.unusedVariables false
namespace Go.Proofs.Ytimnfkmjdnmdeaa.Pure
open Go.RowKit Go.Proofs.Ytimnfkmjdnmdeaa.P Go.Proofs.YtimnfkmjdnmdeaaW.PrintWords Go.Proofs.YtimnfkmjdnmdeaaW.PrintLast Go.Proofs.Ytimnfkmjdnmdeaa.Aids Go.Proofs.Ytimnfkmjdnmdeaa.Chars
theorem parses_l0 (xs : List Int) (hx : xs.length ≤ 1000) (n last : Int) (l : List (Int × Int)) (hl : l.length ≤ 10000) (d : Nat) : ∀ i : Nat, l.length - i ≤ d → i ≤ l.length →
    Ev (fun k => letterboxlaw21_SeqsetParses.l0 k xs n last (l.map s32) (l.map s33) (i : Int)) true := by
  have stop : Ev (fun k => letterboxlaw21_SeqsetParses.l0 k xs n last (l.map s32) (l.map s33) (l.length : Int)) true := by
    refine st (fun k => by rw [letterboxlaw21_SeqsetParses.l0]) ?_
    rw [has_ok l n last (by omega), of_ok l xs (by omega) (by omega), List.length_map, List.length_map]
    refine no (by omega) (bs (bnd (rhas_ok l n last (by omega)) (yes (by simp) (bs (bnd (rof_ok l xs (by omega) (by omega)) (bnd (same_ok _ _ rfl ?_) (fin rfl)))))))
    have := of_len l xs
    omega
  induction d with
  | zero =>
    intro i hd hi
    have e : i = l.length := by omega
    subst e; exact stop
  | succ d ih =>
    intro i hd hi
    rcases Nat.lt_or_ge i l.length with hlt | hge
    · have e1 : wrap64 ((i : Int) + 1) = ((i + 1 : Nat) : Int) := by rw [w64 (by omega) (by omega)]; omega
      refine st (fun k => by rw [letterboxlaw21_SeqsetParses.l0]) ?_
      rw [e1, rd32 l i hlt, rd33 l i hlt, List.length_map, List.length_map]
      exact yes (by omega) (yes (by omega) (yes (by omega) (yes rfl (yes rfl (ih (i + 1) (by omega) hlt)))))
    · have e : i = l.length := by omega
      subst e; exact stop
theorem parseP_len : ∀ (L : List (List Int)) (acc : List (Int × Int)) (n : Nat), (parseP L acc n).1.length ≤ L.length + acc.length
  | [], acc, n => by
    rw [parseP]; split <;> simp
  | p :: t, acc, n => by
    rw [parseP]
    split
    · simp
    · have := parseP_len t (acc ++ [rng p]) n
      simp at this ⊢; omega
theorem SeqsetParses : letterboxlaw21_SeqsetParses.Pure := by
  intro a0 l1 a2 a3 h0 h1 h2 h3 h4 h5
  have hl0 := size_bytes a0
  refine Ev.rounds (g := fun k => letterboxlaw21_SeqsetParses.f k a0 l1 a2 a3) ?_
  show Ev (fun k => (letterboxlaw21_awake.f k).bind _) _
  refine bnd awake (yes rfl ?_)
  by_cases hs : (a0.size : Int) > 500
  · refine yes hs (st (fun k => by rw [letterboxlaw21_SeqsetParses.j0]) ?_)
    exact yes rfl (fin rfl)
  · refine no hs (st (fun k => by rw [letterboxlaw21_SeqsetParses.j0]) ?_)
    by_cases ha : (l1.length : Int) > 60
    · exact yes (decide_eq_true ha) (fin rfl)
    · refine no (by simpa using ha) ?_
      have hn := splitL_len 44 (bytesOf a0) []
      have hp := parseP_len (splitL 44 (bytesOf a0) []) [] (splitL 44 (bytesOf a0) []).length
      simp only [List.length_nil] at hp
      refine bnd (parse_ok a0 (by omega)) (bnd (rparse_ok a0 (by omega)) (yes rfl (st (fun k => by rw [letterboxlaw21_SeqsetParses.j1]) ?_)))
      refine no (by simp [as32, as33]) ?_
      exact parses_l0 l1 (by omega) a2 a3 (parsed (bytesOf a0)).1 (by unfold parsed; omega) _ 0 (Nat.le_refl _) (Nat.zero_le _)
end Go.Proofs.Ytimnfkmjdnmdeaa.Pure
