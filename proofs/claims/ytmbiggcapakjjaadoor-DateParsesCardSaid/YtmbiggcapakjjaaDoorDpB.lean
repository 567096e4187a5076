/- A text without comments, its parts, an offset, a zone: the program's and the document's tell the same. -/
import Derived.Test.YtmbiggcapakjjaaDoorParts
import Derived.Test.YtmbiggcapakjjaaDoorDpA
import Derived.Test.YtmbiggcapakjjaaDoorPx3
import Derived.Test.YtmbiggcapakjjaaDoorPx10
import Derived.Test.YtmbiggcapakjjaaDoorPx10
import Derived.Test.YtmbiggcapakjjaaDoorPx12
set_option linter.unusedVariables false
set_option linter.unusedSimpArgs false
namespace Go.Proofs.YtmbiggcapakjjaaDoor.Dp
open Go.RowKit Go.Proofs.YtmbiggcapakjjaaDoor.P Go.Proofs.YtmbiggcapakjjaaDoorW.PrintWords Go.Proofs.YtmbiggcapakjjaaDoorW.PrintLast Go.Proofs.YtmbiggcapakjjaaDoor.Aids Go.Proofs.YtmbiggcapakjjaaDoor.Chars Go.Proofs.YtmbiggcapakjjaaDoor.Cal Go.Proofs.YtmbiggcapakjjaaDoor.Txt Go.Proofs.YtmbiggcapakjjaaDoor.Prt
theorem ext_1 (l : List Int) (i : Nat) (h : i < l.length) : (strOfNums l).extract ((i : Int)).toNat (((i + 1 : Nat) : Int)).toNat = strOfNums [rd l (i : Int)] := by
  rw [str_extract, Int.toNat_natCast, Int.toNat_natCast, rd_at l i h, List.take_succ_eq_append_getElem h, List.drop_append_of_le_length (by rw [List.length_take]; omega), List.drop_eq_nil_of_le (by rw [List.length_take]; omega)]
  rfl
theorem rbare_l0 {l : List Int} (hb : byte l) (hl : l.length ≤ 100000) : ∀ (d i n : Nat) (acc : List Int), l.length - i < d → n ≤ i → acc.length ≤ i → Ev (fun k => letterboxref11_bare.l0 k (strOfNums l) (strOfNums acc) (n : Int) (i : Int)) (strOfNums (acc ++ bareL d (l.drop i) n)) := by
  have hz : (strOfNums l).size = l.length := strOfNums_size _
  intro d
  induction d with
  | zero => intro i n acc h; omega
  | succ d ih =>
    intro i n acc h hn ha
    have hza : (strOfNums acc).size = acc.length := strOfNums_size _
    rcases Nat.lt_or_ge i l.length with hi | hi
    · have hbi := hb _ (rd_mem l i hi)
      have hex := ext_1 l i hi
      rw [drop_rd l i hi, bareL]
      have hbt : bt (strOfNums l) (i : Int) = rd l (i : Int) := str_bt _ hb _
      generalize hx : rd l (i : Int) = x at *
      have e1 : Aside0 (wrap64 ((i : Int) + 1) = ((i + 1 : Nat) : Int)) := ⟨by rw [w64 (by omega) (by omega)]; omega⟩
      have e2 : Aside0 (wrap64 (((i + 1 : Nat) : Int) + 1) = ((i + 2 : Nat) : Int)) := ⟨by rw [w64 (by omega) (by omega)]; omega⟩
      have e3 : Aside0 (wrap64 ((n : Int) + 1) = ((n + 1 : Nat) : Int)) := ⟨by rw [w64 (by omega) (by omega)]; omega⟩
      refine st (fun k => by rw [letterboxref11_bare.l0]) ?_
      rw [hbt, e1.out, e3.out]
      refine yes (by omega) (yes (by omega) ?_)
      by_cases h40 : x = 40
      · rw [if_pos h40]
        refine yes h40 (yes (by omega) ?_)
        rw [show (⟨#[32]⟩ : ByteArray) = strOfNums [32] from rfl, str_append]
        refine toE (ih (i + 1) (n + 1) (acc ++ [32]) (by omega) (by omega) (by simp; omega)) ?_
        simp
      · rw [if_neg h40]
        refine no h40 ?_
        by_cases hn0 : n = 0
        · rw [if_pos hn0]
          subst hn0
          refine yes (by omega) (yes (by omega) (yes (by omega) ?_))
          rw [hex, str_append]
          refine yes (by rw [strOfNums_size, strOfNums_size]; simp; omega) ?_
          refine toE (ih (i + 1) 0 (acc ++ [x]) (by omega) (by omega) (by simp; omega)) ?_
          simp
        · rw [if_neg hn0]
          refine no (by omega) ?_
          by_cases h92 : x = 92
          · rw [if_pos h92]
            refine yes h92 ?_
            rw [e2.out]
            refine toE (ih (i + 2) n acc (by omega) (by omega) (by omega)) ?_
            rw [List.drop_drop]
          · rw [if_neg h92]
            refine no h92 ?_
            by_cases h41 : x = 41
            · rw [if_pos h41]
              have e4 : wrap64 ((n : Int) - 1) = ((n - 1 : Nat) : Int) := by rw [w64 (by omega) (by omega)]; omega
              refine yes h41 ?_
              rw [e4]
              exact ih (i + 1) (n - 1) acc (by omega) (by omega) (by omega)
            · rw [if_neg h41]
              refine no h41 ?_
              exact ih (i + 1) n acc (by omega) (by omega) (by omega)
    · rw [List.drop_eq_nil_of_le hi]
      refine st (fun k => by rw [letterboxref11_bare.l0]) ?_
      refine no (by omega) (fin ?_)
      rw [bareL, List.append_nil]
theorem rbare_ok {l : List Int} (hb : byte l) (hl : l.length ≤ 100000) : Ev (fun k => letterboxref11_bare.f k (strOfNums l)) (strOfNums (bareL (l.length + 1) l 0)) := by
  have := rbare_l0 hb hl (l.length + 1) 0 0 [] (by omega) (by omega) (by simp)
  unfold letterboxref11_bare.f
  rw [str_nil] at this
  simpa using this
theorem rparts_l0 {l : List Int} (hb : byte l) (hl : l.length ≤ 100000) : ∀ (d i : Nat) (acc : List ByteArray) (cur : List Int), l.length + 1 - i ≤ d → i ≤ l.length → acc.length ≤ i → cur.length ≤ i →
    Ev (fun k => letterboxref11_parts.l0 k (strOfNums l) acc (strOfNums cur) (i : Int)) (acc ++ Chars.strs (partsL (l.drop i) cur)) := by
  have hz : (strOfNums l).size = l.length := strOfNums_size _
  have hfin : ∀ (acc : List ByteArray) (cur : List Int), Ev (fun k => letterboxref11_parts.l0 k (strOfNums l) acc (strOfNums cur) (((l.length : Nat) : Int) + 1)) acc := by
    intro acc cur
    refine st (fun k => by rw [letterboxref11_parts.l0]) ?_
    exact no (by omega) (fin rfl)
  intro d
  induction d with
  | zero => intro i acc cur h hi; omega
  | succ d ih =>
    intro i acc cur h hi ha hc
    have hi1 : ((i : Int) + 1) = ((i + 1 : Nat) : Int) := by omega
    have e1 : Aside0 (wrap64 ((i : Int) + 1) = ((i + 1 : Nat) : Int)) := ⟨by rw [w64 (by omega) (by omega)]; omega⟩
    rcases Nat.lt_or_ge i l.length with hlt | hge
    · have hbi := hb _ (rd_mem l i hlt)
      have hbt : bt (strOfNums l) (i : Int) = rd l (i : Int) := str_bt _ hb _
      have hex := ext_1 l i hlt
      rw [drop_rd l i hlt, partsL]
      generalize hx : rd l (i : Int) = x at *
      refine st (fun k => by rw [letterboxref11_parts.l0]) ?_
      rw [hbt]
      refine yes (by omega) (yes (by omega) (yes (by omega) ?_))
      have hB : bl x = true → Ev (fun k => letterboxref11_parts.j1 k (strOfNums l) acc (strOfNums cur) (i : Int) false) (acc ++ Chars.strs (if bl x = true then (if cur = [] then partsL (l.drop (i + 1)) [] else cur :: partsL (l.drop (i + 1)) []) else partsL (l.drop (i + 1)) (cur ++ [x]))) := by
        intro hbl
        rw [if_pos hbl]
        refine st (fun k => by rw [letterboxref11_parts.j1]) ?_
        rw [e1.out]
        refine no (by decide) ?_
        by_cases hcu : cur = []
        · rw [if_pos hcu]
          refine yes ((str_toList_nil cur).2 hcu) ?_
          rw [hcu]
          exact ih (i + 1) acc [] (by omega) (by omega) (by omega) (by simp)
        · rw [if_neg hcu]
          refine no (fun e => hcu ((str_toList_nil cur).1 e)) (yes (by omega) ?_)
          refine toE (ih (i + 1) (acc ++ [strOfNums cur]) [] (by omega) (by omega) (by simp; omega) (by simp)) ?_
          simp [Chars.strs]
      by_cases h32 : x = 32
      · exact yes h32 (hB (by unfold bl; rw [decide_eq_true h32]; rfl))
      · refine no h32 ?_
        by_cases h9 : x = 9
        · rw [show (x != 9) = false by rw [bne_eq_false_iff_eq]; exact h9]
          exact hB (by unfold bl; rw [decide_eq_true h9, Bool.or_true])
        · have hbl : bl x = false := by unfold bl; rw [decide_eq_false h32, decide_eq_false h9]; rfl
          rw [show (x != 9) = true by rw [bne_iff_ne]; exact h9, hbl, if_neg (by decide)]
          refine st (fun k => by rw [letterboxref11_parts.j1]) ?_
          rw [e1.out, hex, str_append]
          refine yes rfl (yes (by omega) (yes (by omega) (yes (by omega) (yes (by rw [strOfNums_size, strOfNums_size]; simp; omega) ?_))))
          exact ih (i + 1) acc (cur ++ [x]) (by omega) (by omega) (by omega) (by simp; omega)
    · have hie : i = l.length := by omega
      rw [List.drop_eq_nil_of_le hge, partsL]
      refine st (fun k => by rw [letterboxref11_parts.l0]) ?_
      refine yes (by omega) (no (by omega) ?_)
      refine st (fun k => by rw [letterboxref11_parts.j1]) ?_
      rw [e1.out, hie, ← show (((l.length : Nat) : Int) + 1) = ((l.length + 1 : Nat) : Int) by omega]
      refine no (by decide) ?_
      by_cases hcu : cur = []
      · rw [if_pos hcu]
        refine yes ((str_toList_nil cur).2 hcu) ?_
        refine toE (hfin acc cur) ?_
        simp [Chars.strs]
      · rw [if_neg hcu]
        refine no (fun e => hcu ((str_toList_nil cur).1 e)) (yes (by omega) ?_)
        exact hfin _ []
theorem rparts_ok {l : List Int} (hb : byte l) (hl : l.length ≤ 100000) : Ev (fun k => letterboxref11_parts.f k (strOfNums l)) (Chars.strs (partsL l [])) := by
  have := rparts_l0 hb hl (l.length + 1) 0 [] [] (by omega) (by omega) (by simp) (by simp)
  unfold letterboxref11_parts.f
  rw [str_nil] at this
  simpa using this
/-! an offset -/
theorem offset2 {l : List Int} (hb : byte l) (hl : l.length ≤ 1000) : ∃ r : Int × Bool, Ev (fun k => date_offset.f k (strOfNums l)) r ∧ Ev (fun k => letterboxref11_offset.f k (strOfNums l)) r ∧ -1440 ≤ r.1 ∧ r.1 ≤ 1440 := by
  have hT : Ev (fun k => date_offset.j0 k (strOfNums l) true) (0, false) := by
    refine st (fun k => by rw [date_offset.j0]) ?_
    exact yes rfl (fin rfl)
  have hR : Ev (fun k => letterboxref11_offset.j0 k (strOfNums l) true) (0, false) := by
    refine st (fun k => by rw [letterboxref11_offset.j0]) ?_
    exact yes rfl (fin rfl)
  unfold date_offset.f letterboxref11_offset.f
  rw [strOfNums_size, str_bt _ hb]
  by_cases h5 : (l.length : Int) = 5
  case neg => exact ⟨(0, false), no h5 hT, no h5 hR, by decide⟩
  have hlen : l.length = 5 := by omega
  have hJ : ∃ r : Int × Bool, Ev (fun k => date_offset.j0 k (strOfNums l) false) r ∧ Ev (fun k => letterboxref11_offset.j0 k (strOfNums l) false) r ∧ -1440 ≤ r.1 ∧ r.1 ≤ 1440 := by
    obtain ⟨h, p1, r1, b1, b1'⟩ := digits2 (byte_drop (byte_take hb 3) 1) (by simp; omega) [2] 2 2 (by decide)
    obtain ⟨m, p2, r2, b2, b2'⟩ := digits2 (byte_drop (byte_take hb l.length) 3) (by simp; omega) [2] 2 2 (by decide)
    have hT1 : ∀ a b : Int, Ev (fun k => date_offset.j1 k (strOfNums l) a b true) (0, false) := fun a b => by
      refine st (fun k => by rw [date_offset.j1]) ?_
      exact yes rfl (fin rfl)
    have hR1 : ∀ a b : Int, Ev (fun k => letterboxref11_offset.j1 k (strOfNums l) a b true) (0, false) := fun a b => by
      refine st (fun k => by rw [letterboxref11_offset.j1]) ?_
      exact yes rfl (fin rfl)
    have key : ∃ r : Int × Bool, Ev (fun k => if h < 0 then (date_offset.j1 k (strOfNums l) h m true) else (if h > 23 then (date_offset.j1 k (strOfNums l) h m true) else (if m < 0 then (date_offset.j1 k (strOfNums l) h m true) else (date_offset.j1 k (strOfNums l) h m (decide (m > 59)))))) r ∧
        Ev (fun k => if h < 0 then (letterboxref11_offset.j1 k (strOfNums l) h m true) else (if h > 23 then (letterboxref11_offset.j1 k (strOfNums l) h m true) else (if m < 0 then (letterboxref11_offset.j1 k (strOfNums l) h m true) else (letterboxref11_offset.j1 k (strOfNums l) h m (decide (m > 59)))))) r ∧ -1440 ≤ r.1 ∧ r.1 ≤ 1440 := by
      by_cases c1 : h < 0
      · exact ⟨_, yes c1 (hT1 _ _), yes c1 (hR1 _ _), by decide⟩
      by_cases c2 : h > 23
      · exact ⟨_, no c1 (yes c2 (hT1 _ _)), no c1 (yes c2 (hR1 _ _)), by decide⟩
      by_cases c3 : m < 0
      · exact ⟨_, no c1 (no c2 (yes c3 (hT1 _ _))), no c1 (no c2 (yes c3 (hR1 _ _))), by decide⟩
      by_cases c4 : m > 59
      · rw [decide_eq_true c4]
        exact ⟨_, no c1 (no c2 (no c3 (hT1 _ _))), no c1 (no c2 (no c3 (hR1 _ _))), by decide⟩
      rw [decide_eq_false c4]
      have w1 : wrap64 (60 * h) = 60 * h := w64 (by omega) (by omega)
      have w2 : wrap64 ((-60) * h) = (-60) * h := w64 (by omega) (by omega)
      have w3 : wrap64 (60 * h + m) = 60 * h + m := w64 (by omega) (by omega)
      have w4 : wrap64 ((-60) * h - m) = (-60) * h - m := w64 (by omega) (by omega)
      have w5 : wrap64 (-(60 * h + m)) = -(60 * h + m) := w64 (by omega) (by omega)
      by_cases c5 : rd l 0 = 45
      · refine ⟨((-60) * h - m, true), no c1 (no c2 (no c3 ?_)), no c1 (no c2 (no c3 ?_)), ?_⟩
        · refine st (fun k => by rw [date_offset.j1]) ?_
          rw [strOfNums_size, str_bt _ hb, w2, w4]
          exact no (by decide) (yes (by omega) (yes c5 (fin rfl)))
        · refine st (fun k => by rw [letterboxref11_offset.j1]) ?_
          rw [strOfNums_size, str_bt _ hb, w1, w3, w5]
          exact no (by decide) (yes (by omega) (yes c5 (fin (by congr 1; omega))))
        · show -1440 ≤ (-60) * h - m ∧ (-60) * h - m ≤ 1440
          omega
      · refine ⟨(60 * h + m, true), no c1 (no c2 (no c3 ?_)), no c1 (no c2 (no c3 ?_)), ?_⟩
        · refine st (fun k => by rw [date_offset.j1]) ?_
          rw [strOfNums_size, str_bt _ hb, w1, w3]
          exact no (by decide) (yes (by omega) (no c5 (fin rfl)))
        · refine st (fun k => by rw [letterboxref11_offset.j1]) ?_
          rw [strOfNums_size, str_bt _ hb, w1, w3]
          exact no (by decide) (yes (by omega) (no c5 (fin rfl)))
        · show -1440 ≤ 60 * h + m ∧ 60 * h + m ≤ 1440
          omega
    obtain ⟨r, k1, k2, k3⟩ := key
    refine ⟨r, ?_, ?_, k3⟩
    · refine st (fun k => by rw [date_offset.j0]) ?_
      rw [strOfNums_size, str_extract, str_extract]
      exact no (by decide) (yes (by decide) (yes (by omega) (bnd p1 (bnd p2 k1))))
    · refine st (fun k => by rw [letterboxref11_offset.j0]) ?_
      rw [strOfNums_size, str_extract, str_extract]
      exact no (by decide) (yes (by decide) (yes (by omega) (bnd r1 (bnd r2 k2))))
  by_cases c43 : rd l 0 = 43
  · obtain ⟨r, k1, k2, k3⟩ := hJ
    exact ⟨r, yes h5 (yes (by omega) (yes c43 k1)), yes h5 (yes (by omega) (yes c43 k2)), k3⟩
  · by_cases c45 : rd l 0 = 45
    · rw [show (rd l 0 != 45) = false by rw [bne_eq_false_iff_eq]; exact c45]
      obtain ⟨r, k1, k2, k3⟩ := hJ
      exact ⟨r, yes h5 (yes (by omega) (no c43 k1)), yes h5 (yes (by omega) (no c43 k2)), k3⟩
    · rw [show (rd l 0 != 45) = true by rw [bne_iff_ne]; exact c45]
      exact ⟨_, yes h5 (yes (by omega) (no c43 hT)), yes h5 (yes (by omega) (no c43 hR)), by decide⟩
/-! a zone -/
theorem rz_l1 (t : ByteArray) : Ev (fun k => letterboxref11_zone.l1 k t ([(⟨#[101, 100, 116]⟩ : ByteArray), (⟨#[101, 115, 116]⟩ : ByteArray), (⟨#[99, 100, 116]⟩ : ByteArray), (⟨#[99, 115, 116]⟩ : ByteArray), (⟨#[109, 100, 116]⟩ : ByteArray), (⟨#[109, 115, 116]⟩ : ByteArray), (⟨#[112, 100, 116]⟩ : ByteArray), (⟨#[112, 115, 116]⟩ : ByteArray)] : List ByteArray) ([(-4), (-5), (-5), (-6), (-6), (-7), (-7), (-8)] : List Int) 0) (60 * zn_n t, true) := by
  by_cases h0 : t = (⟨#[101, 100, 116]⟩ : ByteArray)
  · subst h0
    refine st (fun k => by rw [letterboxref11_zone.l1]) ?_
    exact yes (by decide) (yes (by decide) (yes rfl (yes (by decide) (fin (by decide +kernel)))))
  refine st (fun k => by rw [letterboxref11_zone.l1]) ?_
  rw [show wrap64 ((0 : Int) + 1) = 1 by rw [w64 (by decide) (by decide)]; rfl]
  refine yes (by decide) (yes (by decide) (no (fun e => h0 (bytes_of_toList e).symm) ?_))
  by_cases h1 : t = (⟨#[101, 115, 116]⟩ : ByteArray)
  · subst h1
    refine st (fun k => by rw [letterboxref11_zone.l1]) ?_
    exact yes (by decide) (yes (by decide) (yes rfl (yes (by decide) (fin (by decide +kernel)))))
  refine st (fun k => by rw [letterboxref11_zone.l1]) ?_
  rw [show wrap64 ((1 : Int) + 1) = 2 by rw [w64 (by decide) (by decide)]; rfl]
  refine yes (by decide) (yes (by decide) (no (fun e => h1 (bytes_of_toList e).symm) ?_))
  by_cases h2 : t = (⟨#[99, 100, 116]⟩ : ByteArray)
  · subst h2
    refine st (fun k => by rw [letterboxref11_zone.l1]) ?_
    exact yes (by decide) (yes (by decide) (yes rfl (yes (by decide) (fin (by decide +kernel)))))
  refine st (fun k => by rw [letterboxref11_zone.l1]) ?_
  rw [show wrap64 ((2 : Int) + 1) = 3 by rw [w64 (by decide) (by decide)]; rfl]
  refine yes (by decide) (yes (by decide) (no (fun e => h2 (bytes_of_toList e).symm) ?_))
  by_cases h3 : t = (⟨#[99, 115, 116]⟩ : ByteArray)
  · subst h3
    refine st (fun k => by rw [letterboxref11_zone.l1]) ?_
    exact yes (by decide) (yes (by decide) (yes rfl (yes (by decide) (fin (by decide +kernel)))))
  refine st (fun k => by rw [letterboxref11_zone.l1]) ?_
  rw [show wrap64 ((3 : Int) + 1) = 4 by rw [w64 (by decide) (by decide)]; rfl]
  refine yes (by decide) (yes (by decide) (no (fun e => h3 (bytes_of_toList e).symm) ?_))
  by_cases h4 : t = (⟨#[109, 100, 116]⟩ : ByteArray)
  · subst h4
    refine st (fun k => by rw [letterboxref11_zone.l1]) ?_
    exact yes (by decide) (yes (by decide) (yes rfl (yes (by decide) (fin (by decide +kernel)))))
  refine st (fun k => by rw [letterboxref11_zone.l1]) ?_
  rw [show wrap64 ((4 : Int) + 1) = 5 by rw [w64 (by decide) (by decide)]; rfl]
  refine yes (by decide) (yes (by decide) (no (fun e => h4 (bytes_of_toList e).symm) ?_))
  by_cases h5 : t = (⟨#[109, 115, 116]⟩ : ByteArray)
  · subst h5
    refine st (fun k => by rw [letterboxref11_zone.l1]) ?_
    exact yes (by decide) (yes (by decide) (yes rfl (yes (by decide) (fin (by decide +kernel)))))
  refine st (fun k => by rw [letterboxref11_zone.l1]) ?_
  rw [show wrap64 ((5 : Int) + 1) = 6 by rw [w64 (by decide) (by decide)]; rfl]
  refine yes (by decide) (yes (by decide) (no (fun e => h5 (bytes_of_toList e).symm) ?_))
  by_cases h6 : t = (⟨#[112, 100, 116]⟩ : ByteArray)
  · subst h6
    refine st (fun k => by rw [letterboxref11_zone.l1]) ?_
    exact yes (by decide) (yes (by decide) (yes rfl (yes (by decide) (fin (by decide +kernel)))))
  refine st (fun k => by rw [letterboxref11_zone.l1]) ?_
  rw [show wrap64 ((6 : Int) + 1) = 7 by rw [w64 (by decide) (by decide)]; rfl]
  refine yes (by decide) (yes (by decide) (no (fun e => h6 (bytes_of_toList e).symm) ?_))
  by_cases h7 : t = (⟨#[112, 115, 116]⟩ : ByteArray)
  · subst h7
    refine st (fun k => by rw [letterboxref11_zone.l1]) ?_
    exact yes (by decide) (yes (by decide) (yes rfl (yes (by decide) (fin (by decide +kernel)))))
  refine st (fun k => by rw [letterboxref11_zone.l1]) ?_
  rw [show wrap64 ((7 : Int) + 1) = 8 by rw [w64 (by decide) (by decide)]; rfl]
  refine yes (by decide) (yes (by decide) (no (fun e => h7 (bytes_of_toList e).symm) ?_))
  refine st (fun k => by rw [letterboxref11_zone.l1]) ?_
  refine no (by decide) (fin ?_)
  unfold zn_n
  rw [if_neg h6, if_neg h7, if_neg h4, if_neg h5, if_neg h2, if_neg h3, if_neg h0, if_neg h1]
  rfl
def zs (c : Int) : Bool := decide (97 ≤ c ∧ c ≤ 122)
theorem rz_l0 {L : List Int} (hb : byte L) (hl : L.length ≤ 1000) : ∀ (c i : Nat), L.length - i ≤ c → i ≤ L.length → Ev (fun k => letterboxref11_zone.l0 k (strOfNums L) (i : Int)) (if (L.drop i).all zs = true then (60 * zn_n (strOfNums L), true) else (0, false)) := by
  have hend : Ev (fun k => letterboxref11_zone.l0 k (strOfNums L) (L.length : Int)) (if (L.drop L.length).all zs = true then (60 * zn_n (strOfNums L), true) else (0, false)) := by
    rw [List.drop_length, if_pos (show ([] : List Int).all zs = true from rfl)]
    refine st (fun k => by rw [letterboxref11_zone.l0]) ?_
    refine no (by rw [strOfNums_size]; omega) ?_
    exact rz_l1 _
  intro c
  induction c with
  | zero =>
    intro i h1 h2
    have : i = L.length := by omega
    subst this
    exact hend
  | succ c ih =>
    intro i h1 h2
    rcases Nat.lt_or_ge i L.length with h | h
    · have hbi := hb _ (rd_mem L i h)
      have e1 : wrap64 ((i : Int) + 1) = ((i + 1 : Nat) : Int) := by rw [w64 (by omega) (by omega)]; omega
      refine st (fun k => by rw [letterboxref11_zone.l0]) ?_
      rw [str_bt _ hb, strOfNums_size, e1, drop_rd L i h, List.all_cons]
      refine yes (by omega) (yes (by omega) ?_)
      by_cases c1 : rd L (i : Int) < 97
      · rw [show zs (rd L (i : Int)) = false by unfold zs; exact decide_eq_false (by omega), Bool.false_and, if_neg (by decide)]
        exact yes c1 (fin rfl)
      · by_cases c2 : rd L (i : Int) > 122
        · rw [show zs (rd L (i : Int)) = false by unfold zs; exact decide_eq_false (by omega), Bool.false_and, if_neg (by decide)]
          exact no c1 (yes c2 (fin rfl))
        · rw [show zs (rd L (i : Int)) = true by unfold zs; exact decide_eq_true (by omega), Bool.true_and]
          exact no c1 (no c2 (ih (i + 1) (by omega) h))
    · have : i = L.length := by omega
      subst this
      exact hend
theorem zone2 {l : List Int} (hb : byte l) (h0 : l ≠ []) (hl : l.length ≤ 1000) : ∃ r : Int × Bool, Ev (fun k => date_zone.f k (strOfNums l)) r ∧ Ev (fun k => letterboxref11_zone.f k (strOfNums l)) r ∧ -1440 ≤ r.1 ∧ r.1 ≤ 1440 := by
  have hp : 0 < l.length := List.length_pos_iff.2 h0
  unfold date_zone.f letterboxref11_zone.f
  rw [strOfNums_size, str_bt _ hb]
  by_cases hs : rd l 0 = 43 ∨ rd l 0 = 45
  · obtain ⟨r, k1, k2, k3⟩ := offset2 hb hl
    have hJ : Ev (fun k => letterboxref11_zone.j0 k (strOfNums l) true) r := by
      refine st (fun k => by rw [letterboxref11_zone.j0]) ?_
      exact yes rfl (bnd k2 (fin rfl))
    refine ⟨r, yes ⟨by omega, by omega⟩ (yes hs k1), yes (by omega) ?_, k3⟩
    by_cases c43 : rd l 0 = 43
    · exact yes c43 hJ
    · rw [show (rd l 0 == 45) = true from beq_iff_eq.2 (by omega)]
      exact no c43 hJ
  · have hall : (bytesOf (strOfNums l)).all zn_l = (lows l).all zs := by
      rw [bytes_str _ hb]
      unfold lows
      rw [List.all_map, Bool.eq_iff_iff, List.all_eq_true, List.all_eq_true]
      have e : ∀ c ∈ l, zn_l c = (zs ∘ low) c := fun c hc => by
        unfold zn_l zs
        show _ = decide (97 ≤ low c ∧ low c ≤ 122)
        rw [low_is (hb c hc)]
      exact ⟨fun h c hc => by rw [← e c hc]; exact h c hc, fun h c hc => by rw [e c hc]; exact h c hc⟩
    have hx : ∃ r : Int × Bool, r = (if (lows l).all zs = true then (60 * zn_n (strOfNums (lows l)), true) else (0, false)) := ⟨_, rfl⟩
    obtain ⟨r, hr⟩ := hx
    have hJ : Ev (fun k => letterboxref11_zone.j0 k (strOfNums l) false) r := by
      refine st (fun k => by rw [letterboxref11_zone.j0]) ?_
      refine no (by decide) (bnd (rfolded l hb (by omega)) ?_)
      rw [hr]
      exact rz_l0 (lows_byte hb) (by rw [lows_length]; exact hl) (lows l).length 0 (by omega) (by omega)
    refine ⟨r, yes ⟨by omega, by omega⟩ (no hs ?_), yes (by omega) (no (fun e => hs (.inl e)) ?_), ?_⟩
    · rw [hall, folded l hb (by omega), hr]
      by_cases ha : (lows l).all zs = true
      · simp only [if_pos ha]; exact bs (fin rfl)
      · simp only [if_neg ha]; exact fin rfl
    · rw [show (rd l 0 == 45) = false from beq_eq_false_iff_ne.2 (fun e => hs (.inr e))]
      exact hJ
    · rw [hr]
      have := zn_small (strOfNums (lows l))
      split
      · show -1440 ≤ 60 * zn_n (strOfNums (lows l)) ∧ 60 * zn_n (strOfNums (lows l)) ≤ 1440
        omega
      · decide
end Go.Proofs.YtmbiggcapakjjaaDoor.Dp
