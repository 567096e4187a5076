/- The law SeqsetMany holds: more ranges than may be are told as too many; as many as may be are taken. -/
import Derived.Test.YtimnfkmjdnmdeaaHas
import Derived.Test.YtimnfkmjdnmdeaaPx8
set_option linter.unusedVariables false
namespace Go.Proofs.Ytimnfkmjdnmdeaa.Pure
open Go.RowKit Go.Proofs.Ytimnfkmjdnmdeaa.P Go.Proofs.YtimnfkmjdnmdeaaW.PrintWords Go.Proofs.YtimnfkmjdnmdeaaW.PrintLast Go.Proofs.Ytimnfkmjdnmdeaa.Aids Go.Proofs.Ytimnfkmjdnmdeaa.Chars
/-- so many sevens with commas between -/
def J : Nat → List Int
  | 0 => []
  | i + 1 => if i = 0 then [55] else J i ++ [44, 55]
theorem J_len : ∀ i, (J i).length ≤ 2 * i
  | 0 => Nat.le_refl _
  | i + 1 => by
    have := J_len i
    rw [J]; split <;> simp <;> omega
theorem J_byte : ∀ i, byte (J i)
  | 0 => byte_nil
  | i + 1 => by
    have := J_byte i
    rw [J]; split
    · exact byte_one (by decide) (by decide)
    · exact byte_append this (byte_cons (by decide) (byte_one (by decide) (by decide)))
theorem split_app (z : Int) (m : List Int) : ∀ (l cur : List Int), splitL z (l ++ z :: m) cur = splitL z l cur ++ splitL z m []
  | [], cur => by simp [splitL]
  | c :: t, cur => by
    rw [List.cons_append, splitL, splitL]
    by_cases h : c = z
    · rw [if_pos h, if_pos h, split_app z m t []]; rfl
    · rw [if_neg h, if_neg h, split_app z m t _]
theorem split_J : ∀ i, splitL 44 (J (i + 1)) [] = List.replicate (i + 1) [55]
  | 0 => by rw [J, if_pos rfl]; rfl
  | i + 1 => by
    rw [J, if_neg (Nat.succ_ne_zero i)]
    have := split_app 44 [55] (J (i + 1)) []
    rw [this, split_J i, List.replicate_succ' (n := i + 1)]; rfl
theorem split_star (i : Nat) : splitL 44 (J (i + 2) ++ [58, 42]) [] = List.replicate (i + 1) [55] ++ [[55, 58, 42]] := by
  rw [J, if_neg (Nat.succ_ne_zero i), List.append_assoc]
  have := split_app 44 [55, 58, 42] (J (i + 1)) []
  show splitL 44 (J (i + 1) ++ 44 :: [55, 58, 42]) [] = _
  rw [this, split_J i]; rfl
theorem split_comma (l : List Int) : splitL 44 (l ++ [44]) [] = splitL 44 l [] ++ [[]] := split_app 44 [] l []
theorem rng7 : rng [55] = (7, 7) := by decide +kernel
theorem rng7s : rng [55, 58, 42] = (7, 0) := by decide +kernel
theorem rng0 : rng [] = (-1, -1) := by decide +kernel
theorem parse_rep (Y : List (List Int)) (n : Nat) : ∀ (m : Nat) (acc : List (Int × Int)), parseP (List.replicate m [55] ++ Y) acc n = parseP Y (acc ++ List.replicate m (7, 7)) n
  | 0, acc => by simp
  | m + 1, acc => by
    rw [List.replicate_succ, List.cons_append, parseP_next (by rw [rng7]; decide), rng7, parse_rep Y n m, List.append_assoc]
    congr 2
/-- the text, its ranges -/
def txt (k : Nat) (s : Bool) : List Int := if s = true then J k ++ [58, 42] else J k
def rgs (k : Nat) (s : Bool) : List (Int × Int) := if s = true then List.replicate (k - 1) (7, 7) ++ [(7, 0)] else List.replicate k (7, 7)
theorem parsed_txt (k : Nat) (s : Bool) (hk : 2 ≤ k) : parsed (txt k s) = if k > 1000 then ([], 13) else (rgs k s, 0) := by
  obtain ⟨j, rfl⟩ : ∃ j, k = j + 2 := ⟨k - 2, by omega⟩
  unfold parsed txt rgs
  cases s with
  | true =>
    rw [if_pos rfl, if_pos rfl, split_star, parse_rep, parseP_next (by rw [rng7s]; decide), rng7s, parseP]
    have : (List.replicate (j + 1) [(55 : Int)] ++ [[55, 58, 42]]).length = j + 2 := by simp
    rw [this]; rfl
  | false =>
    show parseP (splitL 44 (J (j + 2)) []) [] (splitL 44 (J (j + 2)) []).length = if j + 2 > 1000 then ([], 13) else (List.replicate (j + 2) (7, 7), 0)
    rw [split_J (j + 1)]
    have h := parse_rep [] (List.replicate (j + 1 + 1) [(55 : Int)]).length (j + 1 + 1) []
    rw [List.append_nil] at h
    rw [h, parseP, List.length_replicate]; rfl
theorem parsed_comma (k : Nat) (s : Bool) (hk : 2 ≤ k) : parsed (txt k s ++ [44]) = ([], 50) := by
  obtain ⟨j, rfl⟩ : ∃ j, k = j + 2 := ⟨k - 2, by omega⟩
  unfold parsed txt
  rw [split_comma]
  cases s with
  | true =>
    rw [if_pos rfl, split_star, List.append_assoc, parse_rep]
    show parseP ([55, 58, 42] :: [[]]) _ _ = _
    rw [parseP_next (by rw [rng7s]; decide), parseP_bad (by rw [rng0]; decide)]
  | false =>
    show parseP (splitL 44 (J (j + 2)) [] ++ [[]]) [] _ = _
    rw [split_J (j + 1), parse_rep, parseP_bad (by rw [rng0]; decide)]
theorem txt_byte (k : Nat) (s : Bool) : byte (txt k s) := by
  unfold txt; split
  · exact byte_append (J_byte k) (byte_cons (by decide) (byte_one (by decide) (by decide)))
  · exact J_byte k
theorem txt_len (k : Nat) (s : Bool) : (txt k s).length ≤ 2 * k + 2 := by
  have := J_len k
  unfold txt; split <;> simp <;> omega
theorem many_j1 (k : Nat) (s : Bool) (hk : 2 ≤ k) (h : k ≤ 2000) : Ev (fun n => letterboxlaw21_SeqsetMany.j1 n s (k : Int) (strOfNums (txt k s))) true := by
  have hl := txt_len k s
  have hs : (strOfNums (txt k s)).size = (txt k s).length := strOfNums_size _
  have e44 : strOfNums (txt k s) ++ (⟨#[44]⟩ : ByteArray) = strOfNums (txt k s ++ [44]) := by rw [← str_append]; rfl
  have hs2 : (strOfNums (txt k s ++ [44])).size = (txt k s).length + 1 := by rw [strOfNums_size]; simp
  have p1 := parse_ok (strOfNums (txt k s)) (by omega)
  have p2 := parse_ok (strOfNums (txt k s ++ [44])) (by omega)
  rw [bytes_str _ (txt_byte k s), parsed_txt k s hk] at p1
  rw [bytes_str _ (byte_append (txt_byte k s) (byte_one (by decide) (by decide))), parsed_comma k s hk] at p2
  refine st (fun k => by rw [letterboxlaw21_SeqsetMany.j1]) (bnd p1 ?_)
  rw [e44]
  refine yes (by omega) (bnd p2 ?_)
  by_cases hb : k > 1000
  · rw [if_pos hb]
    exact yes (by omega) (yes rfl (yes rfl (fin rfl)))
  · rw [if_neg hb]
    have hr : (rgs k s).length = k := by
      unfold rgs; split <;> simp; omega
    have e1 : wrap64 ((k : Int) - 1) = ((k - 1 : Nat) : Int) := by rw [w64 (by omega) (by omega)]; omega
    have hr2 : ((as32 (rgs k s, 0)).1.length : Int) = k := by
      show (((rgs k s).map s32).length : Int) = k
      rw [List.length_map, hr]
    rw [e1, hr2]
    refine no (by omega) (yes rfl (yes rfl (yes (by omega) (yes (by omega) (yes ?_ (fin rfl))))))
    show ((rd_T32 ((rgs k s).map s32) ((k - 1 : Nat) : Int)).f1 == 0) == s
    rw [rd32 (rgs k s) (k - 1) (by omega)]
    cases s with
    | true =>
      have : (rgs k true)[k - 1]'(by omega) = (7, 0) := by
        unfold rgs; simp
      rw [this]; rfl
    | false =>
      have : (rgs k false)[k - 1]'(by omega) = (7, 7) := by
        unfold rgs; simp
      rw [this]; rfl
section
variable (k : Nat) (s : Bool) (hk : 2 ≤ k) (h : k ≤ 2000)
include hk h
theorem many_l0 (d : Nat) : ∀ i : Nat, k - i ≤ d → i ≤ k → Ev (fun n => letterboxlaw21_SeqsetMany.l0 n s (k : Int) (strOfNums (J i)) (i : Int)) true := by
  have stop : Ev (fun n => letterboxlaw21_SeqsetMany.l0 n s (k : Int) (strOfNums (J k)) (k : Int)) true := by
    have hl := J_len k
    have hs : (strOfNums (J k)).size = (J k).length := strOfNums_size _
    have m := many_j1 k s hk h
    refine st (fun k => by rw [letterboxlaw21_SeqsetMany.l0]) (no (by omega) ?_)
    cases s with
    | true =>
      refine yes rfl (yes (by omega) ?_)
      rw [show strOfNums (J k) ++ (⟨#[58, 42]⟩ : ByteArray) = strOfNums (txt k true) by unfold txt; rw [if_pos rfl, ← str_append]; rfl]
      exact m
    | false => exact no (by decide) m
  induction d with
  | zero =>
    intro i hd hi
    have e : i = k := by omega
    subst e; exact stop
  | succ d ih =>
    intro i hd hi
    rcases Nat.lt_or_ge i k with hlt | hge
    · have e1 : wrap64 ((i : Int) + 1) = ((i + 1 : Nat) : Int) := by rw [w64 (by omega) (by omega)]; omega
      have hl := J_len i
      have hs : (strOfNums (J i)).size = (J i).length := strOfNums_size _
      have go := ih (i + 1) (by omega) hlt
      refine st (fun k => by rw [letterboxlaw21_SeqsetMany.l0]) ?_
      rw [e1]
      refine yes (by omega) ?_
      by_cases h0 : i = 0
      · subst h0
        exact no (by omega) (yes (by omega) go)
      · have e2 : (strOfNums (J i) ++ (⟨#[44]⟩ : ByteArray)) ++ (⟨#[55]⟩ : ByteArray) = strOfNums (J (i + 1)) := by
          rw [J, if_neg h0, show ([44, 55] : List Int) = [44] ++ [55] from rfl, ← List.append_assoc, ← str_append, ← str_append]; rfl
        have e3 : (strOfNums (J i) ++ (⟨#[44]⟩ : ByteArray)).size = (J i).length + 1 := by rw [ByteArray.size_append, hs]; rfl
        rw [e2, e3]
        exact yes (by omega) (yes (by omega) (yes (by omega) go))
    · have e : i = k := by omega
      subst e; exact stop
end
theorem SeqsetMany : letterboxlaw21_SeqsetMany.Pure := by
  intro a0 a1 h0
  have hw := wf_u16 h0
  refine Ev.rounds (g := fun k => letterboxlaw21_SeqsetMany.f k a0 a1) ?_
  show Ev (fun k => (letterboxlaw21_awake.f k).bind _) _
  refine bnd awake (yes rfl ?_)
  have e0 : wrap64 (wrap64 (Int.tmod a0 30) + 985) = (((a0 % 30).toNat + 985 : Nat) : Int) := by
    rw [tmod_pos hw.1, w64 (x := a0 % 30) (by omega) (by omega), w64 (by omega) (by omega)]; omega
  rw [e0]
  exact many_l0 _ a1 (by omega) (by omega) _ 0 (Nat.le_refl _) (Nat.zero_le _)
end Go.Proofs.Ytimnfkmjdnmdeaa.Pure
