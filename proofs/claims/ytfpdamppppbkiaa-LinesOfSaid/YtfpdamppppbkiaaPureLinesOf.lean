/- The law LinesOf holds of every row of bytes, every part and every line: its lines, their texts, and the first without text are the document's. No condition. -/
import Derived.Test.YtfpdamppppbkiaaLines
import Derived.Test.YtfpdamppppbkiaaPx2
set_option linter.unusedVariables false
namespace Go.Proofs.Ytfpdamppppbkiaa.Pure
open Go.RowKit Go.Proofs.Ytfpdamppppbkiaa.P Go.Proofs.YtfpdamppppbkiaaW.PrintWords Go.Proofs.YtfpdamppppbkiaaW.PrintLast Go.Proofs.Ytfpdamppppbkiaa.Aids Go.Proofs.Ytfpdamppppbkiaa.Lin

theorem count_eq (b : List Int) (x y : Int) (hl : b.length ≤ 100000) : lines_Count.f b x y = some (if 0 ≤ x ∧ x ≤ y ∧ y ≤ (b.length : Int) then ((ln_from b y.toNat x.toNat).length : Int) else 0) := if_pos hl
def toM (x : S29) : S41 := ⟨x.f0, x.f1, x.f2⟩
theorem from_bounds (b : List Int) (en : Nat) (he : en ≤ b.length) (d : Nat) : ∀ at_ : Nat, en - at_ ≤ d → ∀ x ∈ ln_from b en at_, 0 ≤ x.f0 ∧ x.f0 ≤ x.f1 ∧ x.f1 ≤ (b.length : Int) := by
  induction d using Nat.strongRecOn with
  | _ d ih =>
    intro at_ hd x hx
    by_cases hlt : at_ < en
    · have hs := nx_spec b en at_ hlt he
      have hnl := ln_nx_lt b en at_ hlt
      rw [ln_from_step b _ _ hlt] at hx
      rcases List.mem_cons.1 hx with rfl | hx
      · rcases hs with ⟨m, hm, _, _, h0, _, h1⟩ | ⟨_, h⟩
        · rw [h0, h1]; split <;> omega
        · rw [h]; dsimp only; omega
      · clear hs
        exact ih (d - 1) (by omega) _ (by omega) x hx
    · rw [ln_from_end b _ _ hlt] at hx; cases hx
theorem ref_l0 (b : List Int) (hb : byte b) (hl : b.length ≤ 1000) (en : Nat) (he : en ≤ b.length) (d : Nat) : ∀ (i at_ : Nat) (out : List S41), en - i ≤ d → at_ ≤ i → i ≤ en → out.length ≤ i → (∀ j : Nat, at_ ≤ j → j < i → rd b (j : Int) ≠ 10) →
    Ev (fun k => letterboxref05_Of.l0 k (strOfNums b) (en : Int) out (at_ : Int) (i : Int)) (out ++ (ln_from b en at_).map toM) := by
  have stop : ∀ (i at_ : Nat) (out : List S41), ¬ i < en → at_ ≤ i → i ≤ en → out.length ≤ i → (∀ j : Nat, at_ ≤ j → j < i → rd b (j : Int) ≠ 10) →
      Ev (fun k => letterboxref05_Of.l0 k (strOfNums b) (en : Int) out (at_ : Int) (i : Int)) (out ++ (ln_from b en at_).map toM) := by
    intro i at_ out hi h1 h2 ho hno
    refine st (fun k => by rw [letterboxref05_Of.l0]) ?_
    refine no (by omega) ?_
    by_cases hlt : at_ < en
    · have hs := nx_spec b en at_ hlt he
      refine yes (by omega) (yes (by omega) (fin ?_))
      rcases hs with ⟨m, hm, h10, _⟩ | ⟨_, h⟩
      · exact absurd h10 (hno (at_ + m) (by omega) (by omega))
      · rw [ln_from_step b _ _ hlt, h]
        dsimp only
        rw [Int.toNat_natCast, ln_from_end b _ _ (by omega)]; rfl
    · rw [ln_from_end b _ _ hlt]
      exact no (by omega) (fin (by simp))
  induction d with
  | zero => intro i at_ out hd h1 h2 ho hno; exact stop i at_ out (by omega) h1 h2 ho hno
  | succ d ih =>
    intro i at_ out hd h1 h2 ho hno
    by_cases hi : i < en
    · have e1 : Aside0 (wrap64 ((i : Int) + 1) = ((i + 1 : Nat) : Int)) := ⟨by rw [w64 (by omega) (by omega)]; omega⟩
      refine st (fun k => by rw [letterboxref05_Of.l0]) ?_
      simp only [strOfNums_size, str_bt b hb]
      rw [e1.out]
      refine yes (by omega) (yes (by omega) (yes (by omega) ?_))
      by_cases h10 : rd b (i : Int) = 10
      · refine yes h10 ?_
        have hlt : at_ < en := by omega
        have hs := nx_spec b en at_ hlt he
        obtain ⟨m, hm, q1, q3, q2, q4, q5⟩ : ∃ m : Nat, at_ + m < en ∧ rd b ((at_ + m : Nat) : Int) = 10 ∧ (∀ j : Nat, at_ ≤ j → j < at_ + m → rd b (j : Int) ≠ 10) ∧ (ln_nx b en at_).f0 = (at_ : Int) ∧ (ln_nx b en at_).f2 = ((at_ + m + 1 : Nat) : Int) ∧
            (ln_nx b en at_).f1 = (if 0 < m ∧ rd b ((at_ + m - 1 : Nat) : Int) = 13 then ((at_ + m - 1 : Nat) : Int) else ((at_ + m : Nat) : Int)) := by
          rcases hs with h | ⟨h, _⟩
          · exact h
          · exact absurd h10 (h i h1 hi)
        have hmi : at_ + m = i := by
          rcases Nat.lt_trichotomy (at_ + m) i with h | h | h
          · exact absurd q1 (hno (at_ + m) (by omega) h)
          · exact h
          · exact absurd h10 (q3 i h1 h)
        clear hs
        have hfrom : (ln_from b en at_).map toM = toM (ln_nx b en at_) :: (ln_from b en (i + 1)).map toM := by
          rw [ln_from_step b _ _ hlt, q4, List.map_cons, Int.toNat_natCast, show at_ + m + 1 = i + 1 by omega]
        have nxt : ∀ y : S41, y = toM (ln_nx b en at_) → Ev (fun k => letterboxref05_Of.l0 k (strOfNums b) (en : Int) (out ++ [y]) ((i + 1 : Nat) : Int) ((i + 1 : Nat) : Int)) (out ++ (ln_from b en at_).map toM) := by
          intro y hy
          refine toE (ih (i + 1) (i + 1) (out ++ [y]) (by omega) (Nat.le_refl _) (by omega) (by simp; omega) (fun j a c => by omega)) ?_
          rw [hfrom, hy, List.append_assoc]; rfl
        have hX : ∀ f1 : Int, (ln_nx b en at_).f1 = f1 → (⟨(at_ : Int), f1, ((i + 1 : Nat) : Int)⟩ : S41) = toM (ln_nx b en at_) := by
          intro f1 hf
          unfold toM
          rw [q2, q4, hf, show at_ + m + 1 = i + 1 by omega]
        by_cases hgt : at_ < i
        · have e2 : Aside0 (wrap64 ((i : Int) - 1) = ((i - 1 : Nat) : Int)) := ⟨by rw [w64 (by omega) (by omega)]; omega⟩
          rw [e2.out]
          refine yes (by omega) (yes (by omega) (yes (by omega) ?_))
          by_cases h13 : rd b ((i - 1 : Nat) : Int) = 13
          · refine yes h13 (yes (by omega) (nxt _ (hX _ ?_)))
            rw [q5, if_pos ⟨by omega, by rw [show at_ + m - 1 = i - 1 by omega]; exact h13⟩, show at_ + m - 1 = i - 1 by omega]
          · refine no h13 (yes (by omega) (nxt _ (hX _ ?_)))
            rw [q5, if_neg (fun h => h13 (by rw [show i - 1 = at_ + m - 1 by omega]; exact h.2)), hmi]
        · refine no (by omega) (yes (by omega) (nxt _ (hX _ ?_)))
          rw [q5, if_neg (fun h => by omega), hmi]
      · exact no h10 (ih (i + 1) at_ out (by omega) (by omega) (by omega) (by omega) (fun j a c => by
          by_cases e : j = i
          · rw [e]; exact h10
          · exact hno j a (by omega)))
    · exact stop i at_ out hi h1 h2 ho hno
theorem rd_map (L : List S29) (i : Nat) (hi : i < L.length) : rd_T41 (L.map toM) (i : Int) = toM (rd_T29 L (i : Int)) := by
  unfold rd_T41 rd_T29
  rw [Int.toNat_natCast, List.getD_eq_getElem?_getD, List.getD_eq_getElem?_getD, List.getElem?_map, List.getElem?_eq_getElem hi]; rfl
theorem rd_in (L : List S29) (i : Nat) (hi : i < L.length) : rd_T29 L (i : Int) ∈ L := by
  unfold rd_T29
  rw [Int.toNat_natCast, List.getD_eq_getElem?_getD, List.getElem?_eq_getElem hi]; exact List.getElem_mem hi
theorem ref_empty (L : List S29) (hl : L.length ≤ 1000) (d : Nat) : ∀ i : Nat, L.length - i ≤ d → i ≤ L.length → (∀ j : Nat, j < i → (rd_T29 L (j : Int)).f0 ≠ (rd_T29 L (j : Int)).f1) →
    Ev (fun k => letterboxref05_Empty.l0 k (L.map toM) (i : Int)) (ln_emr L) := by
  have stop : ∀ i : Nat, ¬ i < L.length → i ≤ L.length → (∀ j : Nat, j < i → (rd_T29 L (j : Int)).f0 ≠ (rd_T29 L (j : Int)).f1) → Ev (fun k => letterboxref05_Empty.l0 k (L.map toM) (i : Int)) (ln_emr L) := by
    intro i hi hle hno
    refine st (fun k => by rw [letterboxref05_Empty.l0]) ?_
    rw [List.length_map]
    refine no (by omega) (fin ?_)
    unfold ln_emr
    rw [ln_emp_at L i hle hno (.inl (by omega)), if_neg hi]
  induction d with
  | zero => intro i hd hle hno; exact stop i (by omega) hle hno
  | succ d ih =>
    intro i hd hle hno
    by_cases hi : i < L.length
    · have e1 : Aside0 (wrap64 ((i : Int) + 1) = ((i + 1 : Nat) : Int)) := ⟨by rw [w64 (by omega) (by omega)]; omega⟩
      refine st (fun k => by rw [letterboxref05_Empty.l0]) ?_
      rw [List.length_map, e1.out, rd_map L i hi]
      refine yes (by omega) (yes (by omega) ?_)
      by_cases hx : (rd_T29 L (i : Int)).f0 = (rd_T29 L (i : Int)).f1
      · refine yes hx (fin ?_)
        unfold ln_emr
        rw [ln_emp_at L i hle hno (.inr hx), if_pos hi]
      · exact no hx (ih (i + 1) (by omega) (by omega) (fun j hj => by
          by_cases e : j = i
          · rw [e]; exact hx
          · exact hno j (by omega)))
    · exact stop i hi hle hno
theorem of_l0 (b : List Int) (hl : b.length ≤ 500) (L : List S29) (hL : L.length ≤ 1000) (hB : ∀ x ∈ L, 0 ≤ x.f0 ∧ x.f0 ≤ x.f1 ∧ x.f1 ≤ (b.length : Int)) (x0 x1 x2 : Int) (d : Nat) : ∀ i : Nat, L.length - i ≤ d →
    Ev (fun k => letterboxlaw05_LinesOf.l0 k b L (L.map toM) (i : Int) x0 x1 x2) true := by
  have stop : ∀ i : Nat, ¬ i < L.length → Ev (fun k => letterboxlaw05_LinesOf.l0 k b L (L.map toM) (i : Int) x0 x1 x2) true := by
    intro i hi
    refine st (fun k => by rw [letterboxlaw05_LinesOf.l0]) ?_
    refine no (by omega) ?_
    by_cases hin : 0 ≤ x0 ∧ x0 ≤ x1 ∧ x1 ≤ (b.length : Int)
    · have hw : letterboxref05_Within.f x0 x1 (b.length : Int) = some true := by
        unfold letterboxref05_Within.f
        rw [if_pos hin.1, if_pos hin.2.1, decide_eq_true hin.2.2]
      rw [hw]
      refine bs (yes rfl (yes hin.1 (yes hin.2.1 (yes hin.2.2 (bs (fin ?_))))))
      show ((ln_txt b x0 x1).toList == _) = true
      rw [show ln_txt b x0 x1 = strOfNums ((b.take x1.toNat).drop x0.toNat) from if_pos hin]; simp
    · have hw : letterboxref05_Within.f x0 x1 (b.length : Int) = some false := by
        unfold letterboxref05_Within.f
        by_cases a1 : 0 ≤ x0
        · rw [if_pos a1]
          by_cases a2 : x0 ≤ x1
          · rw [if_pos a2, decide_eq_false (fun h => hin ⟨a1, a2, h⟩)]
          · rw [if_neg a2]
        · rw [if_neg a1]
      rw [hw]
      refine bs (no (by decide) (bs (fin ?_)))
      show ((ln_txt b x0 x1).toList == []) = true
      rw [show ln_txt b x0 x1 = ⟨#[]⟩ from if_neg hin, ByteArray.toList_eq]; rfl
  induction d with
  | zero => intro i hd; exact stop i (by omega)
  | succ d ih =>
    intro i hd
    by_cases hi : i < L.length
    · have e1 : Aside0 (wrap64 ((i : Int) + 1) = ((i + 1 : Nat) : Int)) := ⟨by rw [w64 (by omega) (by omega)]; omega⟩
      have hx := hB _ (rd_in L i hi)
      refine st (fun k => by rw [letterboxlaw05_LinesOf.l0]) ?_
      rw [rd_map L i hi, e1.out, List.length_map]
      generalize rd_T29 L (i : Int) = x at *
      refine yes (by omega) (yes (by omega) (yes (by omega) (yes rfl (yes rfl (yes rfl (bs (yes hx.1 (yes hx.2.1 (yes hx.2.2 (yes ?_ (ih (i + 1) (by omega))))))))))))
      show (ln_txt b x.f0 x.f1).toList = _
      rw [show ln_txt b x.f0 x.f1 = strOfNums ((b.take x.f1.toNat).drop x.f0.toNat) from if_pos hx]; rfl
    · exact stop i hi
theorem LinesOf (b : List Int) (fr en x0 x1 x2 : Int) (hwf : ∀ x ∈ b, (Lit.int .u8 x).wf = true) : ∃ k, letterboxlaw05_LinesOf.f k b fr en x0 x1 x2 = some true := by
  have hb : byte b := byte_wf hwf
  refine Ev.rounds (g := fun k => letterboxlaw05_LinesOf.f k b fr en x0 x1 x2) ?_
  show Ev (fun k => (letterboxlaw05_awake.f).bind _) _
  refine bs ?_
  refine yes rfl ?_
  by_cases h : (b.length : Int) > 500
  · exact yes h (fin rfl)
  refine no h ?_
  have fin_ : ∀ L : List S29, L.length ≤ 1000 → (∀ x ∈ L, 0 ≤ x.f0 ∧ x.f0 ≤ x.f1 ∧ x.f1 ≤ (b.length : Int)) → Ev (fun k => letterboxlaw05_LinesOf.j0 k b L (L.map toM) false x0 x1 x2) true := by
    intro L hL hB
    refine st (fun k => by rw [letterboxlaw05_LinesOf.j0]) ?_
    exact no (by decide) (of_l0 b (by omega) L hL hB x0 x1 x2 L.length 0 (by omega))
  have main : ∀ (L : List S29) (v : Bool), L.length ≤ 1000 → (∀ x ∈ L, 0 ≤ x.f0 ∧ x.f0 ≤ x.f1 ∧ x.f1 ≤ (b.length : Int)) → lines_Of.f b fr en = some L → Ev (fun k => letterboxref05_Of.f k (strOfNums b) fr en) (L.map toM) → lines_Count.f b fr en = some (L.length : Int) → lines_Within.f fr en (b.length : Int) = some v → letterboxref05_Within.f fr en (b.length : Int) = some v →
      Ev (fun k => (lines_Of.f b fr en).bind fun t120 => ((letterboxref05_Of.f k (strOfNums b) fr en).bind fun t123 => (if (t120.length : Int) = (t123.length : Int) then ((lines_Count.f b fr en).bind fun t126 => (if t126 = (t123.length : Int) then ((lines_Within.f fr en (b.length : Int)).bind fun t127 => ((letterboxref05_Within.f fr en (b.length : Int)).bind fun t128 => (if (t127 != t128) = true then (letterboxlaw05_LinesOf.j0 k b t120 t123 true x0 x1 x2) else ((lines_Empty.f t120).bind fun t129 => ((letterboxref05_Empty.f k t123).bind fun t130 => (letterboxlaw05_LinesOf.j0 k b t120 t123 (t129 != t130) x0 x1 x2)))))) else (letterboxlaw05_LinesOf.j0 k b t120 t123 true x0 x1 x2))) else (letterboxlaw05_LinesOf.j0 k b t120 t123 true x0 x1 x2)))) true := by
    intro L v hL hB h1 h2 h3 h4 h5
    rw [h1, h3, h4, h5]
    refine bs (bnd h2 (yes (by rw [List.length_map]) (bs (yes (by rw [List.length_map]) (bs (bs (no (by cases v <;> decide) ?_)))))))
    rw [show lines_Empty.f L = some (ln_emr L) from if_pos (by omega)]
    refine bs (bnd (ref_empty L hL L.length 0 (by omega) (by omega) (fun j hj => by omega)) ?_)
    rw [show (ln_emr L != ln_emr L) = false from by simp]
    exact fin_ L hL hB
  by_cases hin : 0 ≤ fr ∧ fr ≤ en ∧ en ≤ (b.length : Int)
  · obtain ⟨a, rfl⟩ : ∃ a : Nat, fr = (a : Int) := ⟨fr.toNat, by omega⟩
    obtain ⟨e, rfl⟩ : ∃ e : Nat, en = (e : Int) := ⟨en.toNat, by omega⟩
    have hlen := ln_from_len b e (e - a) a (Nat.le_refl _)
    refine main (ln_from b e a) true (by omega) (from_bounds b e (by omega) (e - a) a (Nat.le_refl _)) ?_ ?_ ?_ ?_ ?_
    · rw [of_eq b _ _ (by omega), if_pos hin, Int.toNat_natCast, Int.toNat_natCast]
    · have hw : letterboxref05_Within.f (a : Int) (e : Int) ((strOfNums b).size : Int) = some true := by
        unfold letterboxref05_Within.f
        rw [if_pos hin.1, if_pos hin.2.1, strOfNums_size, decide_eq_true hin.2.2]
      unfold letterboxref05_Of.f
      rw [hw]
      refine bs (yes rfl ?_)
      have := ref_l0 b hb (by omega) e (by omega) (e - a) a a [] (Nat.le_refl _) (Nat.le_refl _) (by omega) (by simp) (fun j h1 h2 => by omega)
      exact this
    · rw [count_eq b _ _ (by omega), if_pos hin, Int.toNat_natCast, Int.toNat_natCast]
    · unfold lines_Within.f
      rw [if_pos hin.1, if_pos hin.2.1, decide_eq_true hin.2.2]
    · unfold letterboxref05_Within.f
      rw [if_pos hin.1, if_pos hin.2.1, decide_eq_true hin.2.2]
  · have hw : letterboxref05_Within.f fr en (b.length : Int) = some false := by
      unfold letterboxref05_Within.f
      by_cases a1 : 0 ≤ fr
      · rw [if_pos a1]
        by_cases a2 : fr ≤ en
        · rw [if_pos a2, decide_eq_false (fun h => hin ⟨a1, a2, h⟩)]
        · rw [if_neg a2]
      · rw [if_neg a1]
    refine main [] false (by simp) (fun x hx => by cases hx) ?_ ?_ ?_ ?_ hw
    · rw [of_eq b _ _ (by omega), if_neg hin]
    · unfold letterboxref05_Of.f
      rw [strOfNums_size, hw]
      exact bs (no (by decide) (fin rfl))
    · rw [count_eq b _ _ (by omega), if_neg hin]; rfl
    · unfold lines_Within.f
      by_cases a1 : 0 ≤ fr
      · rw [if_pos a1]
        by_cases a2 : fr ≤ en
        · rw [if_pos a2, decide_eq_false (fun h => hin ⟨a1, a2, h⟩)]
        · rw [if_neg a2]
      · rw [if_neg a1]
end Go.Proofs.Ytfpdamppppbkiaa.Pure
