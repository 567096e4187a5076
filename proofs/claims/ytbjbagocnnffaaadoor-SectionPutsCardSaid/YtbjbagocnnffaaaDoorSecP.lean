/- The document's printed functions Check, Put and Same tell what is said of lists. -/
import Derived.Test.YtbjbagocnnffaaaDoorSecL
import Derived.Test.YtbjbagocnnffaaaDoorPx14
import Derived.Test.YtbjbagocnnffaaaDoorPx10
set_option linter.unusedVariables false
set_option linter.unusedSimpArgs false
set_option linter.unusedSectionVars false
namespace Go.Proofs.YtbjbagocnnffaaaDoor.Sec
open Go.RowKit Go.Proofs.YtbjbagocnnffaaaDoor.P Go.Proofs.YtbjbagocnnffaaaDoorW.PrintWords Go.Proofs.YtbjbagocnnffaaaDoorW.PrintLast Go.Proofs.YtbjbagocnnffaaaDoor.Aids Go.Proofs.YtbjbagocnnffaaaDoor.Chars
theorem ratom {c : Int} (h : 0 ≤ c ∧ c ≤ 255) : Ev (fun k => letterboxref01_Atom.f k c) (atm c) :=
  evk (fun k => letterboxref01_Atom.mono c k) 40 (of_bytes (p := fun c => letterboxref01_Atom.f 40 c = some (atm c)) (by decide +kernel) h)
theorem str_one (s : List Int) (i : Nat) (h : i < s.length) : (strOfNums s).extract i (i + 1) = strOfNums [rd s (i : Int)] := by
  rw [str_extract]
  congr 1
  rw [List.drop_take, drop_rd s i h, show i + 1 - i = 1 by omega]; rfl
theorem rquoted_l0 {s : List Int} (hb : byte s) (hl : s.length ≤ 1000000) (d : Nat) : ∀ (i : Nat) (acc : List Int), s.length - i ≤ d → i ≤ s.length → acc.length ≤ 2 * i + 1 →
    Ev (fun k => letterboxref07_Quoted.l0 k (strOfNums s) (strOfNums acc) (i : Int)) (strOfNums (acc ++ (esc (s.drop i) ++ [34]))) := by
  have stop : ∀ (i : Nat) (acc : List Int), s.length ≤ i → i ≤ s.length → acc.length ≤ 2 * i + 1 → Ev (fun k => letterboxref07_Quoted.l0 k (strOfNums s) (strOfNums acc) (i : Int)) (strOfNums (acc ++ (esc (s.drop i) ++ [34]))) := by
    intro i acc h1 h2 ha
    refine st (fun k => by rw [letterboxref07_Quoted.l0]) ?_
    simp only [strOfNums_size, show (⟨#[34]⟩ : ByteArray) = strOfNums [34] from rfl, str_append]
    refine no (by omega) (yes (by omega) (fin ?_))
    rw [List.drop_eq_nil_of_le h1]; rfl
  induction d with
  | zero => intro i acc hd hi ha; exact stop i acc (by omega) hi ha
  | succ d ih =>
    intro i acc hd hi ha
    rcases Nat.lt_or_ge i s.length with hlt | hge
    · have e1 := wr1 (i := i) (by omega)
      refine st (fun k => by rw [letterboxref07_Quoted.l0]) ?_
      rw [drop_rd s i hlt]
      simp only [strOfNums_size, str_bt _ hb, e1, Int.toNat_natCast, str_one s i hlt, show (⟨#[92]⟩ : ByteArray) = strOfNums [92] from rfl, str_append, esc]
      refine yes (by omega) (yes (by omega) ?_)
      by_cases h1 : rd s (i : Int) = 34
      · rw [if_pos (.inl h1)]
        refine yes h1 (yes (by omega) (yes (by omega) (yes (by omega) (yes ?_ (toE (ih (i + 1) _ (by omega) hlt ?_) ?_)))))
        · simp; omega
        · simp; omega
        · congr 1; simp
      · refine no h1 ?_
        by_cases h2 : rd s (i : Int) = 92
        · rw [if_pos (.inr h2)]
          refine yes h2 (yes (by omega) (yes (by omega) (yes (by omega) (yes ?_ (toE (ih (i + 1) _ (by omega) hlt ?_) ?_)))))
          · simp; omega
          · simp; omega
          · congr 1; simp
        · rw [if_neg (fun e => e.elim h1 h2)]
          refine no h2 (yes (by omega) (yes (by omega) (yes ?_ (toE (ih (i + 1) _ (by omega) hlt ?_) ?_))))
          · simp; omega
          · simp; omega
          · congr 1; simp
    · exact stop i acc hge hi ha
theorem rquoted {s : List Int} (hb : byte s) (hl : s.length ≤ 1000000) : Ev (fun k => letterboxref07_Quoted.f k (strOfNums s)) (strOfNums (34 :: (esc s ++ [34]))) := by
  unfold letterboxref07_Quoted.f
  exact rquoted_l0 hb hl s.length 0 [34] (by omega) (by omega) (by simp)
/-- a name's text, as it is put -/
theorem rname_l0 {s : List Int} (hb : byte s) (hl : s.length ≤ 1000000) (d : Nat) : ∀ (i : Nat) (ok : Bool), s.length - i ≤ d → i ≤ s.length →
    Ev (fun k => letterboxref15_name.l0 k (strOfNums s) ok (i : Int)) (strOfNums (if (ok && (s.drop i).all atm) = true then s else 34 :: (esc s ++ [34]))) := by
  induction d with
  | zero =>
    intro i ok hd hi
    refine st (fun k => by rw [letterboxref15_name.l0]) (no (by rw [strOfNums_size]; omega) ?_)
    rw [List.drop_eq_nil_of_le (by omega), List.all_nil, Bool.and_true]
    cases ok with
    | true => exact yes rfl (fin rfl)
    | false => exact no (by decide) (bnd (rquoted hb hl) (fin rfl))
  | succ d ih =>
    intro i ok hd hi
    rcases Nat.lt_or_ge i s.length with hlt | hge
    · refine st (fun k => by rw [letterboxref15_name.l0]) ?_
      have e1 := wr1 (i := i) (by omega)
      have hx := hb _ (rd_mem s i hlt)
      rw [drop_rd s i hlt, List.all_cons]
      simp only [strOfNums_size, str_bt _ hb, e1]
      refine yes (by omega) (yes (by omega) (bnd (ratom hx) ?_))
      cases ok with
      | true => exact yes rfl (toE (ih (i + 1) _ (by omega) hlt) (by simp))
      | false => exact no (by decide) (toE (ih (i + 1) _ (by omega) hlt) (by simp))
    · exact ih i ok (by omega) hi
theorem rname_ok {s : List Int} (hb : byte s) (hl : s.length ≤ 1000000) : Ev (fun k => letterboxref15_name.f k (strOfNums s)) (strOfNums (nameT s)) := by
  unfold letterboxref15_name.f
  have e : ((strOfNums s).toList != ([] : List UInt8)) = decide (s ≠ []) := by
    rw [Bool.eq_iff_iff, bne_iff_ne, decide_eq_true_iff]
    exact not_congr (str_toList_nil s)
  rw [e]
  refine toE (rname_l0 hb hl s.length 0 _ (by omega) (by omega)) ?_
  rw [List.drop_zero]
  unfold nameT
  congr 1
  by_cases h1 : s ≠ []
  · rw [decide_eq_true h1, Bool.true_and]
    by_cases h2 : s.all atm = true
    · rw [if_pos h2, if_pos ⟨h1, h2⟩]
    · rw [if_neg h2, if_neg (fun e => h2 e.2)]
  · rw [decide_eq_false h1, Bool.false_and, if_neg (by decide), if_neg (fun e => h1 e.1)]
/-! a head -/
/-! what is asked for -/
theorem rword (x : Nat) (h : x < 6) : letterboxref15_word.f (x : Int) = some (strOfNums (wordL x)) := by
  have : x = 0 ∨ x = 1 ∨ x = 2 ∨ x = 3 ∨ x = 4 ∨ x = 5 := by omega
  rcases this with rfl | rfl | rfl | rfl | rfl | rfl <;> rfl
/-! the last byte of a kind -/
/-! whether a spec may be -/
section
variable (x : Sp) (hb : ∀ n ∈ x.nm, byte n) (hn : ∀ n ∈ x.nm, n.length ≤ 1000000) (h1 : x.p.length ≤ 1000000) (h2 : x.nm.length ≤ 1000000)
include hb hn h1 h2
theorem rcheck_l1 (d : Nat) : ∀ i : Nat, x.nm.length - i ≤ d → i ≤ x.nm.length → Ev (fun k => letterboxref15_Check.l1 k (i : Int) x.p x.q (strs x.nm) x.cut x.fr x.mn) (if ((x.nm.drop i).all (·.all pr) && cutB x) = true then 0 else 1) := by
  have hlen : (strs x.nm).length = x.nm.length := by unfold strs; rw [List.length_map]
  induction d with
  | zero =>
    intro i hd hi
    have e : i = x.nm.length := by omega
    subst e
    refine st (fun k => by rw [letterboxref15_Check.l1]) ?_
    rw [List.drop_eq_nil_of_le (Nat.le_refl _), List.all_nil, Bool.true_and]
    refine no (by omega) ?_
    unfold cutB within
    cases x.cut with
    | true =>
      refine yes rfl ?_
      by_cases c1 : x.fr < 0
      · exact yes c1 (fin (by simp [show ¬ 0 ≤ x.fr by omega]))
      · refine no c1 ?_
        by_cases c2 : x.fr > 4294967295
        · exact yes c2 (fin (by simp [show ¬ x.fr ≤ 4294967295 by omega]))
        · refine no c2 ?_
          by_cases c3 : x.mn < 1
          · exact yes c3 (fin (by simp [show ¬ 1 ≤ x.mn by omega]))
          · refine no c3 ?_
            by_cases c4 : x.mn > 4294967295
            · exact yes c4 (fin (by simp [show ¬ x.mn ≤ 4294967295 by omega]))
            · exact no c4 (fin (by simp [show 0 ≤ x.fr by omega, show x.fr ≤ 4294967295 by omega, show 1 ≤ x.mn by omega, show x.mn ≤ 4294967295 by omega]))
    | false =>
      refine no (by decide) ?_
      by_cases c1 : x.fr = 0
      · refine yes c1 ?_
        by_cases c2 : x.mn = 0
        · exact yes c2 (fin (by simp [c1, c2]))
        · exact no c2 (fin (by simp [c1, c2]))
      · exact no c1 (fin (by simp [c1]))
  | succ d ih =>
    intro i hd hi
    rcases Nat.lt_or_ge i x.nm.length with hlt | hge
    · have e0 : i ≤ 1000000 := by omega
      have hbi := hb _ (List.getElem_mem hlt)
      have hni := hn _ (List.getElem_mem hlt)
      have inner : ∀ (m j : Nat), x.nm[i].length - j ≤ m → j ≤ x.nm[i].length → Ev (fun k => letterboxref15_Check.l2 k (i : Int) (j : Int) x.p x.q (strs x.nm) x.cut x.fr x.mn) (if ((x.nm[i].drop j).all pr && ((x.nm.drop (i + 1)).all (·.all pr) && cutB x)) = true then 0 else 1) := by
        intro m
        induction m with
        | zero =>
          intro j hm hj
          refine st (fun k => by rw [letterboxref15_Check.l2]) ?_
          simp only [strs_at _ i hlt, strOfNums_size, hlen, wr1 e0]
          rw [List.drop_eq_nil_of_le (by omega), List.all_nil, Bool.true_and]
          exact yes (by omega) (yes (by omega) (no (by omega) (ih (i + 1) (by omega) hlt)))
        | succ m ihm =>
          intro j hm hj
          rcases Nat.lt_or_ge j x.nm[i].length with hj2 | hj2
          · have e2 := wr1 (i := j) (by omega)
            refine st (fun k => by rw [letterboxref15_Check.l2]) ?_
            simp only [strs_at _ i hlt, strOfNums_size, hlen, str_bt _ hbi, e2]
            clear e2
            rw [drop_rd x.nm[i] j hj2, List.all_cons]
            refine yes (by omega) (yes (by omega) (yes (by omega) (yes (by omega) ?_)))
            by_cases c1 : rd x.nm[i] (j : Int) < 32
            · refine yes c1 (fin ?_)
              unfold pr; rw [decide_eq_false (show ¬ 32 ≤ rd x.nm[i] (j : Int) by omega)]; simp
            · refine no c1 ?_
              by_cases c2 : rd x.nm[i] (j : Int) > 126
              · refine yes c2 (fin ?_)
                unfold pr; rw [decide_eq_false (show ¬ rd x.nm[i] (j : Int) ≤ 126 by omega)]; simp
              · refine no c2 (toE (ihm (j + 1) (by omega) hj2) ?_)
                rw [show pr (rd x.nm[i] (j : Int)) = true by unfold pr; rw [decide_eq_true (show 32 ≤ rd x.nm[i] (j : Int) by omega), decide_eq_true (show rd x.nm[i] (j : Int) ≤ 126 by omega)]; rfl, Bool.true_and]
          · exact ihm j (by omega) hj
      refine st (fun k => by rw [letterboxref15_Check.l1]) ?_
      rw [List.drop_eq_getElem_cons hlt, List.all_cons]
      refine yes (by omega) (toE (inner x.nm[i].length 0 (by omega) (by omega)) ?_)
      rw [List.drop_zero, Bool.and_assoc]
    · exact ih i (by omega) hi
theorem rcheck_l0 (d : Nat) : ∀ i : Nat, x.p.length - i ≤ d → i ≤ x.p.length → Ev (fun k => letterboxref15_Check.l0 k (i : Int) x.p x.q (strs x.nm) x.cut x.fr x.mn) (if ((x.p.drop i).all (within · 1) && (x.nm.all (·.all pr) && cutB x)) = true then 0 else 1) := by
  have stop : ∀ i : Nat, x.p.length ≤ i → Ev (fun k => letterboxref15_Check.l0 k (i : Int) x.p x.q (strs x.nm) x.cut x.fr x.mn) (if ((x.p.drop i).all (within · 1) && (x.nm.all (·.all pr) && cutB x)) = true then 0 else 1) := by
    intro i hi
    refine st (fun k => by rw [letterboxref15_Check.l0]) ?_
    rw [List.drop_eq_nil_of_le hi, List.all_nil, Bool.true_and]
    have := rcheck_l1 x hb hn h1 h2 x.nm.length 0 (by omega) (by omega)
    rw [List.drop_zero] at this
    exact no (by omega) this
  induction d with
  | zero => intro i hd hi; exact stop i (by omega)
  | succ d ih =>
    intro i hd hi
    rcases Nat.lt_or_ge i x.p.length with hlt | hge
    · have e1 := wr1 (i := i) (by omega)
      refine st (fun k => by rw [letterboxref15_Check.l0]) ?_
      simp only [e1]
      rw [drop_rd x.p i hlt, List.all_cons]
      refine yes (by omega) (yes (by omega) ?_)
      by_cases c1 : rd x.p (i : Int) < 1
      · refine yes c1 (fin ?_)
        unfold within; rw [decide_eq_false (show ¬ 1 ≤ rd x.p (i : Int) by omega)]; simp
      · refine no c1 ?_
        by_cases c2 : rd x.p (i : Int) > 4294967295
        · refine yes c2 (fin ?_)
          unfold within; rw [decide_eq_false (show ¬ rd x.p (i : Int) ≤ 4294967295 by omega)]; simp
        · refine no c2 (toE (ih (i + 1) (by omega) hlt) ?_)
          rw [show within (rd x.p (i : Int)) 1 = true by unfold within; rw [decide_eq_true (show 1 ≤ rd x.p (i : Int) by omega), decide_eq_true (show rd x.p (i : Int) ≤ 4294967295 by omega)]; rfl, Bool.true_and]
    · exact stop i hge
theorem rcheck_j1 (bad : Bool) : Ev (fun k => letterboxref15_Check.j1 k bad x.p x.q (strs x.nm) x.cut x.fr x.mn) (if (!bad && (x.p.all (within · 1) && (x.nm.all (·.all pr) && cutB x))) = true then 0 else 1) := by
  refine st (fun k => by rw [letterboxref15_Check.j1]) ?_
  cases bad with
  | true => exact yes rfl (fin rfl)
  | false =>
    have := rcheck_l0 x hb hn h1 h2 x.p.length 0 (by omega) (by omega)
    rw [List.drop_zero] at this
    exact no (by decide) this
theorem rcheck_ok : Ev (fun k => letterboxref15_Check.f k x.p x.q (strs x.nm) x.cut x.fr x.mn) (if may x = true then 0 else 1) := by
  have hlen : (strs x.nm).length = x.nm.length := by unfold strs; rw [List.length_map]
  have key : ∀ bad : Bool, headB x = !bad → Ev (fun k => letterboxref15_Check.j1 k bad x.p x.q (strs x.nm) x.cut x.fr x.mn) (if may x = true then 0 else 1) := by
    intro bad h
    rw [may_is, h]
    exact rcheck_j1 x hb hn h1 h2 bad
  have body : ∀ c : Bool, c = listed x.q → Ev (fun k => letterboxref15_Check.j0 k c x.p x.q (strs x.nm) x.cut x.fr x.mn) (if may x = true then 0 else 1) := by
    intro c hc
    refine st (fun k => by rw [letterboxref15_Check.j0]) ?_
    simp only [hlen]
    have names : ∀ (A : Prop) [Decidable A], A → headB x = (if listed x.q then decide (1 ≤ x.nm.length) && decide (x.nm.length ≤ 100) else decide (x.nm.length = 0)) → Ev (fun k => if c = true then (if (x.nm.length : Int) < 1 then letterboxref15_Check.j1 k true x.p x.q (strs x.nm) x.cut x.fr x.mn else (if (x.nm.length : Int) > 100 then letterboxref15_Check.j1 k true x.p x.q (strs x.nm) x.cut x.fr x.mn else letterboxref15_Check.j1 k false x.p x.q (strs x.nm) x.cut x.fr x.mn)) else letterboxref15_Check.j1 k (decide ((x.nm.length : Int) > 0)) x.p x.q (strs x.nm) x.cut x.fr x.mn) (if may x = true then 0 else 1) := by
      intro A _ _ hh
      cases hls : listed x.q with
      | true =>
        rw [hls, if_pos rfl] at hh
        refine yes (hc.trans hls) ?_
        by_cases c1 : (x.nm.length : Int) < 1
        · exact yes c1 (key true (by rw [hh, decide_eq_false (show ¬ 1 ≤ x.nm.length by omega)]; rfl))
        · refine no c1 ?_
          by_cases c2 : (x.nm.length : Int) > 100
          · exact yes c2 (key true (by rw [hh, decide_eq_false (show ¬ x.nm.length ≤ 100 by omega), Bool.and_false]; rfl))
          · exact no c2 (key false (by rw [hh, decide_eq_true (show 1 ≤ x.nm.length by omega), decide_eq_true (show x.nm.length ≤ 100 by omega)]; rfl))
      | false =>
        rw [hls, if_neg (by decide)] at hh
        refine no (by rw [hc, hls]; decide) (key _ ?_)
        rw [hh, Bool.eq_iff_iff]; simp
    by_cases c1 : x.q < 0
    · exact yes c1 (key true (by unfold headB; rw [decide_eq_false (show ¬ 0 ≤ x.q by omega)]; simp))
    · refine no c1 ?_
      by_cases c2 : x.q > 5
      · exact yes c2 (key true (by unfold headB; rw [decide_eq_false (show ¬ x.q ≤ 5 by omega)]; simp))
      · refine no c2 ?_
        by_cases c3 : (x.p.length : Int) > 64
        · exact yes c3 (key true (by unfold headB; rw [decide_eq_false (show ¬ x.p.length ≤ 64 by omega)]; simp))
        · refine no c3 ?_
          by_cases c4 : x.q = 5
          · refine yes c4 ?_
            by_cases c5 : (x.p.length : Int) = 0
            · exact yes c5 (key true (by unfold headB; rw [decide_eq_false (show ¬ 0 < x.p.length by omega), decide_eq_false (show ¬ x.q ≠ 5 from fun h => h c4)]; simp))
            · exact no c5 (names True trivial (by unfold headB; rw [decide_eq_true (show x.p.length ≤ 64 by omega), decide_eq_true (show 0 ≤ x.q by omega), decide_eq_true (show x.q ≤ 5 by omega), decide_eq_true (show 0 < x.p.length by omega)]; simp))
          · exact no c4 (names True trivial (by unfold headB; rw [decide_eq_true (show x.p.length ≤ 64 by omega), decide_eq_true (show 0 ≤ x.q by omega), decide_eq_true (show x.q ≤ 5 by omega), decide_eq_true (show x.q ≠ 5 from c4)]; simp))
  unfold letterboxref15_Check.f
  by_cases h : x.q = 2
  · exact yes h (body true (by unfold listed; rw [decide_eq_true h]; rfl))
  · refine no h (body _ ?_)
    unfold listed
    rw [decide_eq_false h, Bool.false_or, Bool.eq_iff_iff]; simp
end
/-! are two the same -/
theorem same_ok (p : List Int) (q : Int) (nm : List ByteArray) (cut : Bool) (fr mn : Int) (h1 : p.length ≤ 1000000) (h2 : nm.length ≤ 1000000) : Ev (fun k => letterboxref15_Same.f k p q nm cut fr mn p q nm cut fr mn) true := by
  have l1 : ∀ (d i : Nat), nm.length - i ≤ d → i ≤ nm.length → Ev (fun k => letterboxref15_Same.l1 k (i : Int) p q nm cut fr mn p q nm cut fr mn) true := by
    intro d
    induction d with
    | zero =>
      intro i hd hi
      refine st (fun k => by rw [letterboxref15_Same.l1]) ?_
      exact no (by omega) (fin rfl)
    | succ d ih =>
      intro i hd hi
      rcases Nat.lt_or_ge i nm.length with hlt | hge
      · refine st (fun k => by rw [letterboxref15_Same.l1]) ?_
        have e1 := wr1 (i := i) (by omega)
        simp only [e1]
        exact yes (by omega) (yes (by omega) (yes (by omega) (yes trivial (ih (i + 1) (by omega) hlt))))
      · exact ih i (by omega) hi
  have l0 : ∀ (d i : Nat), p.length - i ≤ d → i ≤ p.length → Ev (fun k => letterboxref15_Same.l0 k (i : Int) p q nm cut fr mn p q nm cut fr mn) true := by
    intro d
    induction d with
    | zero =>
      intro i hd hi
      refine st (fun k => by rw [letterboxref15_Same.l0]) ?_
      exact no (by omega) (l1 nm.length 0 (by omega) (by omega))
    | succ d ih =>
      intro i hd hi
      rcases Nat.lt_or_ge i p.length with hlt | hge
      · refine st (fun k => by rw [letterboxref15_Same.l0]) ?_
        have e1 := wr1 (i := i) (by omega)
        simp only [e1]
        exact yes (by omega) (yes (by omega) (yes (by omega) (yes trivial (ih (i + 1) (by omega) hlt))))
      · exact ih i (by omega) hi
  unfold letterboxref15_Same.f
  refine yes rfl (no (by simp) (yes rfl (yes rfl (yes rfl ?_))))
  refine st (fun k => by rw [letterboxref15_Same.j0]) ?_
  exact no (by simp) (l0 p.length 0 (by omega) (by omega))
end Go.Proofs.YtbjbagocnnffaaaDoor.Sec
