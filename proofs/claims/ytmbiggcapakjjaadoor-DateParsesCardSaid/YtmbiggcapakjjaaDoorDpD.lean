/- A moment of a header's text: the program's and the document's tell the same. -/
import Derived.Test.YtmbiggcapakjjaaDoorDpB
import Derived.Test.YtmbiggcapakjjaaDoorDpC
import Derived.Test.YtmbiggcapakjjaaDoorPx5
import Derived.Test.YtmbiggcapakjjaaDoorPx14
import Derived.Test.YtmbiggcapakjjaaDoorSplB
import Derived.Test.YtmbiggcapakjjaaDoorPx6
import Derived.Test.YtmbiggcapakjjaaDoorPx7
import Derived.Test.YtmbiggcapakjjaaDoorPx15
import Derived.Test.YtmbiggcapakjjaaDoorPx16
set_option linter.unusedVariables false
set_option linter.unusedSimpArgs false
namespace Go.Proofs.YtmbiggcapakjjaaDoor.Dp
open Go.RowKit Go.Proofs.YtmbiggcapakjjaaDoor.P Go.Proofs.YtmbiggcapakjjaaDoorW.PrintWords Go.Proofs.YtmbiggcapakjjaaDoorW.PrintLast Go.Proofs.YtmbiggcapakjjaaDoor.Aids Go.Proofs.YtmbiggcapakjjaaDoor.Chars Go.Proofs.YtmbiggcapakjjaaDoor.Cal Go.Proofs.YtmbiggcapakjjaaDoor.Txt Go.Proofs.YtmbiggcapakjjaaDoor.Prt
theorem partsL_good : ∀ (l cur : List Int) (n : Nat), byte l → byte cur → l.length + cur.length ≤ n → ∀ p ∈ partsL l cur, byte p ∧ p ≠ [] ∧ p.length ≤ n
  | [], cur, n, hl, hc, hn => fun p hp => by
    rw [partsL] at hp
    by_cases h : cur = []
    · rw [if_pos h] at hp; cases hp
    · rw [if_neg h, List.mem_singleton] at hp
      subst hp
      exact ⟨hc, h, by simpa using hn⟩
  | c :: t, cur, n, hl, hc, hn => fun p hp => by
    have ht : byte t := fun x hx => hl x (List.mem_cons_of_mem _ hx)
    have hx := hl c List.mem_cons_self
    simp only [List.length_cons] at hn
    rw [partsL] at hp
    by_cases h : bl c = true
    · rw [if_pos h] at hp
      by_cases h2 : cur = []
      · rw [if_pos h2] at hp
        exact partsL_good t [] n ht byte_nil (by simp only [List.length_nil]; omega) p hp
      · rw [if_neg h2] at hp
        rcases List.mem_cons.1 hp with e | hp
        · rw [e]; exact ⟨hc, h2, by omega⟩
        · exact partsL_good t [] n ht byte_nil (by simp only [List.length_nil]; omega) p hp
    · rw [if_neg h] at hp
      exact partsL_good t _ n ht (byte_append hc (byte_one hx.1 hx.2)) (by simp only [List.length_append, List.length_cons, List.length_nil]; omega) p hp
/-- a year, and how the document comes to it -/
theorem year2 {l : List Int} (hb : byte l) (hl : l.length ≤ 1000) (L : List ByteArray) (h2 : 2 < (L.length : Int)) (e2 : rdOf ByteArray.empty L 2 = strOfNums l) : ∃ y, Ev (fun k => date_year.f k (strOfNums l)) y ∧ ∀ r, Ev (fun k => letterboxref11_Parse.j5 k L y) r → Ev (fun k => letterboxref11_Parse.j2 k L false) r := by
  have hp := digits_ok hb hl [2, 4] (by decide) (by decide)
  have hr := rdigits_ok hb 2 4 (by decide)
  have hj : ∀ (y : Int) (b : Bool) r, Ev (fun k => letterboxref11_Parse.j4 k L y (b && decide (y ≥ 0))) r → (b = true ↔ l.length = 2) → Ev (fun k => letterboxref11_Parse.j3 k L y) r := by
    intro y b r h hbl
    refine st (fun k => by rw [letterboxref11_Parse.j3]) ?_
    rw [e2, strOfNums_size]
    refine yes h2 ?_
    by_cases hl2 : l.length = 2
    · rw [hbl.2 hl2, Bool.true_and] at h
      exact yes (by omega) h
    · rw [show b = false by cases b with
        | false => rfl
        | true => exact absurd (hbl.1 rfl) hl2, Bool.false_and] at h
      exact no (by omega) h
  have hj2 : ∀ (t y : Int) r, Ev (fun k => letterboxref11_digits.f k (strOfNums l) 2 4) t → (l.length = 3 → y = -1) → (l.length ≠ 3 → y = t) → Ev (fun k => letterboxref11_Parse.j3 k L y) r → Ev (fun k => letterboxref11_Parse.j2 k L false) r := by
    intro t y r ht h3 hn h
    refine st (fun k => by rw [letterboxref11_Parse.j2]) ?_
    rw [e2, strOfNums_size]
    refine no (by decide) (yes h2 (bnd ht ?_))
    by_cases hl3 : l.length = 3
    · rw [h3 hl3] at h; exact yes (by omega) h
    · rw [hn hl3] at h; exact no (by omega) h
  have hj4 : ∀ (y : Int) r, Ev (fun k => letterboxref11_Parse.j5 k L y) r → Ev (fun k => letterboxref11_Parse.j4 k L y false) r := by
    intro y r h
    refine st (fun k => by rw [letterboxref11_Parse.j4]) ?_
    exact no (by decide) h
  by_cases hl2 : l.length = 2
  · -- two digits
    by_cases hd : l.all dg = true
    · have hv := dv_4 l hd (by omega)
      rw [hl2] at hv
      rw [if_pos ⟨hd, by rw [hl2]; decide⟩] at hp
      rw [if_pos ⟨hd, by omega, by omega⟩] at hr
      generalize dv l 0 = v at *
      have hv2 : v < 100 := hv.2.1
      have w1 : wrap64 (v + 2000) = v + 2000 := w64 (by omega) (by omega)
      have w2 : wrap64 (v + 1900) = v + 1900 := w64 (by omega) (by omega)
      have w3 : wrap64 (v + 1900 + 100) = v + 1900 + 100 := w64 (by omega) (by omega)
      by_cases h50 : v < 50
      · refine ⟨v + 2000, ?_, fun r h => ?_⟩
        · unfold date_year.f
          refine bnd hp ?_
          rw [strOfNums_size]
          refine yes (by omega) ?_
          refine st (fun k => by rw [date_year.j0]) ?_
          refine no (by rw [decide_eq_true_eq]; omega) (yes h50 (fin w1))
        · refine hj2 v v r hr (fun e => by omega) (fun _ => rfl) (hj v true r ?_ (by simp [hl2]))
          refine st (fun k => by rw [letterboxref11_Parse.j4]) ?_
          rw [w2, w3]
          refine yes (by rw [Bool.true_and, decide_eq_true_eq]; omega) (yes (by omega) ?_)
          rw [show v + 1900 + 100 = v + 2000 by omega]
          exact h
      · refine ⟨v + 1900, ?_, fun r h => ?_⟩
        · unfold date_year.f
          refine bnd hp ?_
          rw [strOfNums_size]
          refine yes (by omega) ?_
          refine st (fun k => by rw [date_year.j0]) ?_
          refine no (by rw [decide_eq_true_eq]; omega) (no h50 (fin w2))
        · refine hj2 v v r hr (fun e => by omega) (fun _ => rfl) (hj v true r ?_ (by simp [hl2]))
          refine st (fun k => by rw [letterboxref11_Parse.j4]) ?_
          rw [w2]
          exact yes (by rw [Bool.true_and, decide_eq_true_eq]; omega) (no (by omega) h)
    · rw [if_neg (fun e => hd e.1)] at hp hr
      refine ⟨-1, ?_, fun r h => ?_⟩
      · unfold date_year.f
        refine bnd hp ?_
        rw [strOfNums_size]
        refine yes (by omega) ?_
        refine st (fun k => by rw [date_year.j0]) ?_
        exact yes (by decide) (fin rfl)
      · refine hj2 (-1) (-1) r hr (fun e => rfl) (fun _ => rfl) (hj (-1) true r ?_ (by simp [hl2]))
        exact hj4 _ r h
  · -- another length
    have hy : ∀ v, Ev (fun k => date_digits.f k (strOfNums l) [2, 4]) v → Ev (fun k => date_year.f k (strOfNums l)) v := by
      intro v h
      unfold date_year.f
      refine bnd h ?_
      rw [strOfNums_size]
      refine no (by omega) ?_
      refine st (fun k => by rw [date_year.j0]) ?_
      exact yes rfl (fin rfl)
    by_cases hl4 : l.length = 4
    · have he : (if l.all dg = true ∧ (l.length : Int) ∈ ([2, 4] : List Int) then dv l 0 else -1) = (if l.all dg = true ∧ (2 : Int) ≤ (l.length : Int) ∧ (l.length : Int) ≤ 4 then dv l 0 else -1) := by
        by_cases hd : l.all dg = true
        · rw [if_pos ⟨hd, by rw [hl4]; decide⟩, if_pos ⟨hd, by omega, by omega⟩]
        · rw [if_neg (fun e => hd e.1), if_neg (fun e => hd e.1)]
      rw [he] at hp
      refine ⟨_, hy _ hp, fun r h => ?_⟩
      exact hj2 _ _ r hr (fun e => by omega) (fun _ => rfl) (hj _ false r (hj4 _ r h) (by simp [hl2]))
    · rw [if_neg (fun e => by
        have := e.2
        simp only [List.mem_cons, List.not_mem_nil, or_false] at this
        omega)] at hp
      refine ⟨_, hy _ hp, fun r h => ?_⟩
      refine hj2 _ (-1) r hr (fun e => rfl) (fun e => ?_) (hj (-1) false r (hj4 _ r h) (by simp [hl2]))
      rw [if_neg (by omega)]
theorem moment_f (n s z : Int) : date_moment.f n s z = some (wrap64 (wrap64 (wrap64 (86400 * n) + s) - wrap64 (60 * z)), z) := by
  unfold date_moment.f
  rw [Int.mul_comm n 86400, Int.mul_comm z 60]
/-- behind the year, of four or five parts -/
theorem parse_rest (P : List (List Int)) (hP : ∀ p ∈ P, byte p ∧ p ≠ [] ∧ p.length ≤ 200) (hl : P.length = 4 ∨ P.length = 5) : ∃ r : Int × Int × Bool, Ev (fun k => date_Parse.j2 k (Chars.strs P) false) r ∧ Ev (fun k => letterboxref11_Parse.j2 k (Chars.strs P) false) r := by
  have hs : (Chars.strs P).length = P.length := by unfold Chars.strs; rw [List.length_map]
  have h0 : 0 < P.length := by omega
  have h1 : 1 < P.length := by omega
  have h2 : 2 < P.length := by omega
  have h3 : 3 < P.length := by omega
  have g0 := hP _ (List.getElem_mem h0)
  have g1 := hP _ (List.getElem_mem h1)
  have g2 := hP _ (List.getElem_mem h2)
  have g3 := hP _ (List.getElem_mem h3)
  have e0 : rdOf ByteArray.empty (Chars.strs P) 0 = strOfNums P[0] := strs_at P 0 h0
  have e1 : rdOf ByteArray.empty (Chars.strs P) 1 = strOfNums P[1] := strs_at P 1 h1
  have e2 : rdOf ByteArray.empty (Chars.strs P) 2 = strOfNums P[2] := strs_at P 2 h2
  have e3 : rdOf ByteArray.empty (Chars.strs P) 3 = strOfNums P[3] := strs_at P 3 h3
  obtain ⟨m, pm, rm, m0, m1⟩ := month2 g1.1 (by omega)
  obtain ⟨sec, ps, rs, s0, s1⟩ := clock2 g3.1 (by omega) true 60 (by decide)
  obtain ⟨d, pd, rdd, d0, d1⟩ := digits2 g0.1 (by omega) [1, 2] 1 2 (by decide)
  obtain ⟨y, py, ry⟩ := year2 g2.1 (by omega) (Chars.strs P) (by omega) e2
  obtain ⟨n, pn, rn, nb, nn⟩ := number2 y m d ⟨m0, m1⟩
  have hrest : ∀ (z : Int) (ok : Bool), ∃ r : Int × Int × Bool, Ev (fun k => date_Parse.j3 k (Chars.strs P) m z ok) r ∧ Ev (fun k => letterboxref11_Parse.j6 k (Chars.strs P) y z ok) r := by
    intro z ok
    have hT : Ev (fun k => date_Parse.j4 k (Chars.strs P) m z sec true) (0, 0, false) := by
      refine st (fun k => by rw [date_Parse.j4]) ?_
      exact yes rfl (fin rfl)
    have hp3 : ∀ r, Ev (fun k => if m < 0 then (date_Parse.j4 k (Chars.strs P) m z sec true) else (if ok = true then (date_Parse.j4 k (Chars.strs P) m z sec (decide (sec < 0))) else (date_Parse.j4 k (Chars.strs P) m z sec true))) r → Ev (fun k => date_Parse.j3 k (Chars.strs P) m z ok) r := by
      intro r h
      refine st (fun k => by rw [date_Parse.j3]) ?_
      rw [hs, e3]
      exact yes (by omega) (bnd ps h)
    have hr6 : ∀ r, Ev (fun k => if ok = true then (if sec < 0 then (some (0, 0, false)) else (if n.2 = true then (some (wrap64 ((wrap64 ((wrap64 (86400 * n.1)) + sec)) - (wrap64 (60 * z))), z, true)) else (some (0, 0, false)))) else (some (0, 0, false))) r → Ev (fun k => letterboxref11_Parse.j6 k (Chars.strs P) y z ok) r := by
      intro r h
      refine st (fun k => by rw [letterboxref11_Parse.j6]) ?_
      rw [hs, e3, e1, e0]
      exact yes (by omega) (bnd rs (yes (by omega) (bnd rm (yes (by omega) (bnd rdd (bnd rn h))))))
    cases ok with
    | false =>
      refine ⟨(0, 0, false), hp3 _ ?_, hr6 _ (no (by decide) (fin rfl))⟩
      by_cases hm : m < 0
      · exact yes hm hT
      · exact no hm (no (by decide) hT)
    | true =>
      by_cases hs0 : sec < 0
      · refine ⟨(0, 0, false), hp3 _ ?_, hr6 _ (yes rfl (yes hs0 (fin rfl)))⟩
        by_cases hm : m < 0
        · exact yes hm hT
        · refine no hm (yes rfl ?_)
          rw [decide_eq_true hs0]
          exact hT
      · by_cases hm : m < 0
        · refine ⟨(0, 0, false), hp3 _ (yes hm hT), hr6 _ (yes rfl (no hs0 (no ?_ (fin rfl))))⟩
          rw [nn hm]; decide
        · have hp4 : ∀ r, Ev (fun k => if n.2 = true then ((date_moment.f n.1 sec z).bind fun bt176 => (some (bt176.1, bt176.2, true))) else (some (0, 0, false))) r → Ev (fun k => date_Parse.j3 k (Chars.strs P) m z true) r := by
            intro r h
            refine hp3 r (no hm (yes rfl ?_))
            rw [decide_eq_false hs0]
            refine st (fun k => by rw [date_Parse.j4]) ?_
            rw [hs, e2, e0]
            exact no (by decide) (yes (by omega) (bnd py (yes (by omega) (bnd pd (bnd (pn (by omega)) h)))))
          by_cases hn : n.2 = true
          · refine ⟨_, hp4 _ (yes hn ?_), hr6 _ (yes rfl (no hs0 (yes hn (fin rfl))))⟩
            rw [moment_f]
            exact bs (fin rfl)
          · exact ⟨(0, 0, false), hp4 _ (no hn (fin rfl)), hr6 _ (yes rfl (no hs0 (no hn (fin rfl))))⟩
  rcases hl with hl | hl
  · obtain ⟨r, k1, k2⟩ := hrest 0 true
    refine ⟨r, ?_, ry r ?_⟩
    · refine st (fun k => by rw [date_Parse.j2]) ?_
      rw [hs, e1, pm]
      exact no (by decide) (yes (by omega) (bs (no (by omega) k1)))
    · refine st (fun k => by rw [letterboxref11_Parse.j5]) ?_
      rw [hs]
      exact no (by omega) k2
  · have h4 : 4 < P.length := by omega
    have g4 := hP _ (List.getElem_mem h4)
    have e4 : rdOf ByteArray.empty (Chars.strs P) 4 = strOfNums P[4] := strs_at P 4 h4
    obtain ⟨⟨z, ok⟩, pz, rz, zb⟩ := zone2 g4.1 g4.2.1 (by omega)
    obtain ⟨r, k1, k2⟩ := hrest z ok
    refine ⟨r, ?_, ry r ?_⟩
    · refine st (fun k => by rw [date_Parse.j2]) ?_
      rw [hs, e1, pm, e4]
      exact no (by decide) (yes (by omega) (bs (yes (by omega) (yes (by omega) (bnd pz k1)))))
    · refine st (fun k => by rw [letterboxref11_Parse.j5]) ?_
      rw [hs, e4]
      exact yes (by omega) (yes (by omega) (bnd rz k2))
theorem parse_j1 (P : List (List Int)) (hP : ∀ p ∈ P, byte p ∧ p ≠ [] ∧ p.length ≤ 200) : ∃ r : Int × Int × Bool, Ev (fun k => date_Parse.j1 k (Chars.strs P)) r ∧ Ev (fun k => letterboxref11_Parse.j1 k (Chars.strs P)) r := by
  have hs : (Chars.strs P).length = P.length := by unfold Chars.strs; rw [List.length_map]
  have hT : Ev (fun k => date_Parse.j2 k (Chars.strs P) true) (0, 0, false) := by
    refine st (fun k => by rw [date_Parse.j2]) ?_
    exact yes rfl (fin rfl)
  have hR : Ev (fun k => letterboxref11_Parse.j2 k (Chars.strs P) true) (0, 0, false) := by
    refine st (fun k => by rw [letterboxref11_Parse.j2]) ?_
    exact yes rfl (fin rfl)
  have hp : ∀ r, Ev (fun k => if (P.length : Int) < 4 then (date_Parse.j2 k (Chars.strs P) true) else (date_Parse.j2 k (Chars.strs P) (decide ((P.length : Int) > 5)))) r → Ev (fun k => date_Parse.j1 k (Chars.strs P)) r := by
    intro r h
    refine st (fun k => by rw [date_Parse.j1]) ?_
    rw [hs]; exact h
  have hr : ∀ r, Ev (fun k => if (P.length : Int) < 4 then (letterboxref11_Parse.j2 k (Chars.strs P) true) else (letterboxref11_Parse.j2 k (Chars.strs P) (decide ((P.length : Int) > 5)))) r → Ev (fun k => letterboxref11_Parse.j1 k (Chars.strs P)) r := by
    intro r h
    refine st (fun k => by rw [letterboxref11_Parse.j1]) ?_
    rw [hs]; exact h
  by_cases h4 : (P.length : Int) < 4
  · exact ⟨_, hp _ (yes h4 hT), hr _ (yes h4 hR)⟩
  · by_cases h5 : (P.length : Int) > 5
    · rw [decide_eq_true h5] at hp hr
      exact ⟨_, hp _ (no h4 hT), hr _ (no h4 hR)⟩
    · rw [decide_eq_false h5] at hp hr
      obtain ⟨r, k1, k2⟩ := parse_rest P hP (by omega)
      exact ⟨r, hp _ (no h4 k1), hr _ (no h4 k2)⟩
theorem parse2 {l : List Int} (hb : byte l) (hl : l.length ≤ 200) : ∃ r : Int × Int × Bool, Ev (fun k => date_Parse.f k (strOfNums l)) r ∧ Ev (fun k => letterboxref11_Parse.f k (strOfNums l)) r := by
  have p1 := bare_ok hb (by omega)
  have r1 := rbare_ok hb (by omega)
  have hB := bareL_byte (l.length + 1) l 0 hb
  have hBl := bareL_len (l.length + 1) l 0
  generalize bareL (l.length + 1) l 0 = B at *
  have p2 := parts_ok hB (by omega)
  have r2 := rparts_ok hB (by omega)
  have hP := partsL_good B [] 200 hB byte_nil (by simp only [List.length_nil]; omega)
  generalize partsL B [] = P at *
  have hs : (Chars.strs P).length = P.length := by unfold Chars.strs; rw [List.length_map]
  have hj : ∀ b : Bool, (b = true → 1 ≤ P.length) → ∃ r : Int × Int × Bool, Ev (fun k => date_Parse.j0 k (Chars.strs P) b) r ∧ Ev (fun k => letterboxref11_Parse.j0 k (Chars.strs P) b) r := by
    intro b h1
    cases b with
    | false =>
      obtain ⟨r, k1, k2⟩ := parse_j1 P hP
      refine ⟨r, ?_, ?_⟩
      · refine st (fun k => by rw [date_Parse.j0]) ?_
        exact no (by decide) k1
      · refine st (fun k => by rw [letterboxref11_Parse.j0]) ?_
        exact no (by decide) k2
    | true =>
      have h1 := h1 rfl
      obtain ⟨r, k1, k2⟩ := parse_j1 (P.drop 1) (fun p hp => hP p (List.mem_of_mem_drop hp))
      have ed : (Chars.strs P).drop (1 : Int).toNat = Chars.strs (P.drop 1) := by
        unfold Chars.strs
        rw [List.map_drop]; rfl
      refine ⟨r, ?_, ?_⟩
      · refine st (fun k => by rw [date_Parse.j0]) ?_
        rw [hs, ed]
        exact yes rfl (yes (by omega) k1)
      · refine st (fun k => by rw [letterboxref11_Parse.j0]) ?_
        rw [hs, ed]
        exact yes rfl (yes (by omega) k2)
  unfold date_Parse.f letterboxref11_Parse.f
  by_cases h0 : (P.length : Int) > 0
  case neg =>
    obtain ⟨r, k1, k2⟩ := hj false (fun e => by cases e)
    refine ⟨r, bnd p1 (bnd p2 ?_), bnd r1 (bnd r2 ?_)⟩
    · rw [hs]; exact no h0 k1
    · rw [hs]; exact no h0 k2
  have e0 : rdOf ByteArray.empty (Chars.strs P) 0 = strOfNums P[0] := strs_at P 0 (by omega)
  by_cases h4 : ((P[0].length : Nat) : Int) = 4
  case neg =>
    obtain ⟨r, k1, k2⟩ := hj false (fun e => by cases e)
    refine ⟨r, bnd p1 (bnd p2 ?_), bnd r1 (bnd r2 ?_)⟩
    · rw [hs, e0, strOfNums_size]; exact yes h0 (yes h0 (no h4 k1))
    · rw [hs, e0, strOfNums_size]; exact yes h0 (yes h0 (no h4 k2))
  obtain ⟨r, k1, k2⟩ := hj (bt (strOfNums P[0]) 3 == 44) (fun _ => by omega)
  refine ⟨r, bnd p1 (bnd p2 ?_), bnd r1 (bnd r2 ?_)⟩
  · rw [hs, e0, strOfNums_size]; exact yes h0 (yes h0 (yes h4 (yes (by omega) k1)))
  · rw [hs, e0, strOfNums_size]; exact yes h0 (yes h0 (yes h4 (yes (by omega) k2)))
end Go.Proofs.YtmbiggcapakjjaaDoor.Dp

/- A moment of IMAP's text, and a day of its text: the program's and the document's tell the same. -/
set_option linter.unusedVariables false
set_option linter.unusedSimpArgs false
namespace Go.Proofs.YtmbiggcapakjjaaDoor.Dp
open Go.RowKit Go.Proofs.YtmbiggcapakjjaaDoor.P Go.Proofs.YtmbiggcapakjjaaDoorW.PrintWords Go.Proofs.YtmbiggcapakjjaaDoorW.PrintLast Go.Proofs.YtmbiggcapakjjaaDoor.Aids Go.Proofs.YtmbiggcapakjjaaDoor.Chars Go.Proofs.YtmbiggcapakjjaaDoor.Cal Go.Proofs.YtmbiggcapakjjaaDoor.Txt Go.Proofs.YtmbiggcapakjjaaDoor.Prt
theorem pint_j1 {l : List Int} (hb : byte l) (hl : l.length = 28) (d : Int) : ∃ r : Int × Int × Bool, Ev (fun k => date_ParseInternal.j1 k (strOfNums l) d) r ∧ Ev (fun k => letterboxref11_ParseInternal.j1 k (strOfNums l) d) r := by
  have q : ∀ a b : Nat, byte ((l.take b).drop a) ∧ ((l.take b).drop a).length ≤ 28 := fun a b => ⟨byte_drop (byte_take hb b) a, by simp; omega⟩
  obtain ⟨m, pm, rm, m0, m1⟩ := month2 (q 4 7).1 (by have := (q 4 7).2; omega)
  obtain ⟨y, py, ry, y0, y1⟩ := digits2 (q 8 12).1 (by have := (q 8 12).2; omega) [4] 4 4 (by decide)
  obtain ⟨sec, ps, rs, s0, s1⟩ := clock2 (q 13 21).1 (by have := (q 13 21).2; omega) false 59 (by decide)
  obtain ⟨⟨z, ok⟩, po, ro, zb⟩ := offset2 (q 22 27).1 (by have := (q 22 27).2; omega)
  obtain ⟨n, pn, rn, nb, nn⟩ := number2 y m d ⟨m0, m1⟩
  have hT : Ev (fun k => date_ParseInternal.j2 k d m y sec z true) (0, 0, false) := by
    refine st (fun k => by rw [date_ParseInternal.j2]) ?_
    exact yes rfl (fin rfl)
  have hp : ∀ r, Ev (fun k => if m < 0 then (date_ParseInternal.j2 k d m y sec z true) else (if sec < 0 then (date_ParseInternal.j2 k d m y sec z true) else (date_ParseInternal.j2 k d m y sec z (!ok)))) r → Ev (fun k => date_ParseInternal.j1 k (strOfNums l) d) r := by
    intro r h
    refine st (fun k => by rw [date_ParseInternal.j1]) ?_
    rw [strOfNums_size, str_extract, str_extract, str_extract, str_extract, pm]
    exact yes (by decide) (yes (by omega) (bs (yes (by decide) (yes (by omega) (bnd py (yes (by decide) (yes (by omega) (bnd ps (yes (by decide) (yes (by omega) (bnd po h)))))))))))
  have hr : ∀ r, Ev (fun k => if n.2 = true then (if ok = true then (if sec < 0 then (some (0, 0, false)) else (some (wrap64 ((wrap64 ((wrap64 (86400 * n.1)) + sec)) - (wrap64 (60 * z))), z, true))) else (some (0, 0, false))) else (some (0, 0, false))) r → Ev (fun k => letterboxref11_ParseInternal.j1 k (strOfNums l) d) r := by
    intro r h
    refine st (fun k => by rw [letterboxref11_ParseInternal.j1]) ?_
    rw [strOfNums_size, str_extract, str_extract, str_extract, str_extract]
    exact yes (by decide) (yes (by omega) (bnd ry (yes (by decide) (yes (by omega) (bnd rm (bnd rn (yes (by decide) (yes (by omega) (bnd rs (yes (by decide) (yes (by omega) (bnd ro h))))))))))))
  have hF : n.2 = false ∨ ok = false ∨ sec < 0 → Ev (fun k => if n.2 = true then (if ok = true then (if sec < 0 then (some ((0, 0, false) : Int × Int × Bool)) else (some (wrap64 ((wrap64 ((wrap64 (86400 * n.1)) + sec)) - (wrap64 (60 * z))), z, true))) else (some (0, 0, false))) else (some (0, 0, false))) (0, 0, false) := by
    intro h
    by_cases h1 : n.2 = true
    · refine yes h1 ?_
      by_cases h2 : ok = true
      · refine yes h2 (yes ?_ (fin rfl))
        rcases h with h | h | h
        · rw [h1] at h; cases h
        · rw [h2] at h; cases h
        · exact h
      · exact no h2 (fin rfl)
    · exact no h1 (fin rfl)
  by_cases hm : m < 0
  · exact ⟨_, hp _ (yes hm hT), hr _ (hF (.inl (by rw [nn hm])))⟩
  by_cases hs : sec < 0
  · exact ⟨_, hp _ (no hm (yes hs hT)), hr _ (hF (.inr (.inr hs)))⟩
  cases ok with
  | false => exact ⟨_, hp _ (no hm (no hs hT)), hr _ (hF (.inr (.inl rfl)))⟩
  | true =>
    have hp4 : ∀ r, Ev (fun k => if n.2 = true then ((date_moment.f n.1 sec z).bind fun bt200 => (some (bt200.1, bt200.2, true))) else (some (0, 0, false))) r → Ev (fun k => date_ParseInternal.j1 k (strOfNums l) d) r := by
      intro r h
      refine hp r (no hm (no hs ?_))
      refine st (fun k => by rw [date_ParseInternal.j2]) ?_
      exact no (by decide) (bnd (pn (by omega)) h)
    cases hn : n.2 with
    | false => exact ⟨_, hp4 _ (no (by rw [hn]; decide) (fin rfl)), hr _ (hF (.inl hn))⟩
    | true =>
      refine ⟨_, hp4 _ (yes hn ?_), hr _ (yes hn (yes rfl (no hs (fin rfl))))⟩
      rw [moment_f]
      exact bs (fin rfl)
theorem pint_j0 {l : List Int} (hb : byte l) (hl : l.length = 28) : ∃ r : Int × Int × Bool, Ev (fun k => date_ParseInternal.j0 k (strOfNums l) false) r ∧ Ev (fun k => letterboxref11_ParseInternal.j0 k (strOfNums l) false) r := by
  have q : ∀ a b : Nat, byte ((l.take b).drop a) ∧ ((l.take b).drop a).length ≤ 28 := fun a b => ⟨byte_drop (byte_take hb b) a, by simp; omega⟩
  obtain ⟨t, pt, rt, _, _⟩ := digits2 (q 1 3).1 (by have := (q 1 3).2; omega) [2] 2 2 (by decide)
  obtain ⟨u, pu, ru, _, _⟩ := digits2 (q 2 3).1 (by have := (q 2 3).2; omega) [1] 1 1 (by decide)
  by_cases h32 : rd l 1 = 32
  · obtain ⟨r, k1, k2⟩ := pint_j1 hb hl u
    refine ⟨r, ?_, ?_⟩
    · refine st (fun k => by rw [date_ParseInternal.j0]) ?_
      rw [strOfNums_size, str_extract, str_extract, str_bt _ hb]
      exact no (by decide) (yes (by decide) (yes (by omega) (bnd pt (yes (by omega) (yes h32 (yes (by decide) (bnd pu k1)))))))
    · refine st (fun k => by rw [letterboxref11_ParseInternal.j0]) ?_
      rw [strOfNums_size, str_extract, str_extract, str_bt _ hb]
      exact no (by decide) (yes (by decide) (yes (by omega) (bnd rt (yes (by omega) (yes h32 (yes (by decide) (bnd ru k2)))))))
  · obtain ⟨r, k1, k2⟩ := pint_j1 hb hl t
    refine ⟨r, ?_, ?_⟩
    · refine st (fun k => by rw [date_ParseInternal.j0]) ?_
      rw [strOfNums_size, str_extract, str_extract, str_bt _ hb]
      exact no (by decide) (yes (by decide) (yes (by omega) (bnd pt (yes (by omega) (no h32 k1)))))
    · refine st (fun k => by rw [letterboxref11_ParseInternal.j0]) ?_
      rw [strOfNums_size, str_extract, str_extract, str_bt _ hb]
      exact no (by decide) (yes (by decide) (yes (by omega) (bnd rt (yes (by omega) (no h32 k2)))))
theorem bit (l : List Int) (i : Nat) (h : i < l.length) : (l.take (i + 1)).drop i = [rd l (i : Int)] := by
  rw [rd_at l i h, List.take_succ_eq_append_getElem h, List.drop_append_of_le_length (by rw [List.length_take]; omega), List.drop_eq_nil_of_le (by rw [List.length_take]; omega)]
  rfl
theorem pint2 {l : List Int} (hb : byte l) (hl : l.length ≤ 200) : ∃ r : Int × Int × Bool, Ev (fun k => date_ParseInternal.f k (strOfNums l)) r ∧ Ev (fun k => letterboxref11_ParseInternal.f k (strOfNums l)) r := by
  have hT : Ev (fun k => date_ParseInternal.j0 k (strOfNums l) true) (0, 0, false) := by
    refine st (fun k => by rw [date_ParseInternal.j0]) ?_
    exact yes rfl (fin rfl)
  have hR : Ev (fun k => letterboxref11_ParseInternal.j0 k (strOfNums l) true) (0, 0, false) := by
    refine st (fun k => by rw [letterboxref11_ParseInternal.j0]) ?_
    exact yes rfl (fin rfl)
  unfold date_ParseInternal.f
  rw [strOfNums_size]
  by_cases h28 : (l.length : Int) = 28
  case neg =>
    refine ⟨_, no h28 hT, ?_⟩
    unfold letterboxref11_ParseInternal.f
    rw [strOfNums_size]
    exact no h28 hR
  have hl28 : l.length = 28 := by omega
  have x0 : (l.take 1).drop 0 = [rd l 0] := bit l 0 (by omega)
  have x3 : (l.take 4).drop 3 = [rd l 3] := bit l 3 (by omega)
  have x7 : (l.take 8).drop 7 = [rd l 7] := bit l 7 (by omega)
  have x12 : (l.take 13).drop 12 = [rd l 12] := bit l 12 (by omega)
  have x21 : (l.take 22).drop 21 = [rd l 21] := bit l 21 (by omega)
  have x27 : (l.take l.length).drop 27 = [rd l 27] := by
    have := bit l 27 (by omega)
    rw [hl28]; exact this
  have hbyte : byte [rd l 0, rd l 3, rd l 7, rd l 12, rd l 21, rd l 27] := by
    intro c hc
    simp only [List.mem_cons, List.not_mem_nil, or_false] at hc
    rcases hc with rfl | rfl | rfl | rfl | rfl | rfl
    · exact hb _ (rd_mem l 0 (by omega))
    · exact hb _ (rd_mem l 3 (by omega))
    · exact hb _ (rd_mem l 7 (by omega))
    · exact hb _ (rd_mem l 12 (by omega))
    · exact hb _ (rd_mem l 21 (by omega))
    · exact hb _ (rd_mem l 27 (by omega))
  have hiff : (strOfNums [rd l 0, rd l 3, rd l 7, rd l 12, rd l 21, rd l 27]).toList = ([34, 45, 45, 32, 32, 34] : List UInt8) ↔ (rd l 0 = 34 ∧ rd l 3 = 45 ∧ rd l 7 = 45 ∧ rd l 12 = 32 ∧ rd l 21 = 32 ∧ rd l 27 = 34) := by
    have e : ([34, 45, 45, 32, 32, 34] : List UInt8) = (strOfNums [34, 45, 45, 32, 32, 34]).toList := by rw [ByteArray.toList_eq]; rfl
    rw [e, toList_iff, bytes_str _ hbyte, bytes_str _ (by decide)]
    simp only [List.cons.injEq, and_true]
  have hr : ∀ r, Ev (fun k => letterboxref11_ParseInternal.j0 k (strOfNums l) ((strOfNums [rd l 0, rd l 3, rd l 7, rd l 12, rd l 21, rd l 27]).toList != ([34, 45, 45, 32, 32, 34] : List UInt8))) r → Ev (fun k => letterboxref11_ParseInternal.f k (strOfNums l)) r := by
    intro r h
    unfold letterboxref11_ParseInternal.f
    rw [strOfNums_size]
    simp only [str_extract, x0, x3, x7, x12, x21, x27, str_append, List.cons_append, List.nil_append, strOfNums_size, List.length_cons, List.length_nil]
    exact yes h28 (yes (by decide) (yes (by omega) (yes (by decide) (yes (by omega) (yes (by decide) (yes (by decide) (yes (by omega) (yes (by decide) (yes (by decide) (yes (by omega) (yes (by decide) (yes (by decide) (yes (by omega) (yes (by decide) (yes (by omega) (yes (by decide) h))))))))))))))))
  have hno : ¬ (rd l 0 = 34 ∧ rd l 3 = 45 ∧ rd l 7 = 45 ∧ rd l 12 = 32 ∧ rd l 21 = 32 ∧ rd l 27 = 34) → ((strOfNums [rd l 0, rd l 3, rd l 7, rd l 12, rd l 21, rd l 27]).toList != ([34, 45, 45, 32, 32, 34] : List UInt8)) = true := by
    intro h
    rw [bne_iff_ne]
    exact fun e => h (hiff.1 e)
  rw [str_bt _ hb, str_bt _ hb, str_bt _ hb, str_bt _ hb, str_bt _ hb, str_bt _ hb]
  by_cases c0 : rd l 0 = 34
  case neg => exact ⟨_, yes h28 (yes (by omega) (no c0 hT)), hr _ (by rw [hno (fun e => c0 e.1)]; exact hR)⟩
  by_cases c27 : rd l 27 = 34
  case neg => exact ⟨_, yes h28 (yes (by omega) (yes c0 (yes (by omega) (no c27 hT)))), hr _ (by rw [hno (fun e => c27 e.2.2.2.2.2)]; exact hR)⟩
  by_cases c3 : rd l 3 = 45
  case neg => exact ⟨_, yes h28 (yes (by omega) (yes c0 (yes (by omega) (yes c27 (yes (by omega) (no c3 hT)))))), hr _ (by rw [hno (fun e => c3 e.2.1)]; exact hR)⟩
  by_cases c7 : rd l 7 = 45
  case neg => exact ⟨_, yes h28 (yes (by omega) (yes c0 (yes (by omega) (yes c27 (yes (by omega) (yes c3 (yes (by omega) (no c7 hT)))))))), hr _ (by rw [hno (fun e => c7 e.2.2.1)]; exact hR)⟩
  by_cases c12 : rd l 12 = 32
  case neg => exact ⟨_, yes h28 (yes (by omega) (yes c0 (yes (by omega) (yes c27 (yes (by omega) (yes c3 (yes (by omega) (yes c7 (yes (by omega) (no c12 hT)))))))))), hr _ (by rw [hno (fun e => c12 e.2.2.2.1)]; exact hR)⟩
  by_cases c21 : rd l 21 = 32
  case neg =>
    rw [show (rd l 21 != 32) = true by rw [bne_iff_ne]; exact c21]
    exact ⟨_, yes h28 (yes (by omega) (yes c0 (yes (by omega) (yes c27 (yes (by omega) (yes c3 (yes (by omega) (yes c7 (yes (by omega) (yes c12 (yes (by omega) hT))))))))))), hr _ (by rw [hno (fun e => c21 e.2.2.2.2.1)]; exact hR)⟩
  rw [show (rd l 21 != 32) = false by rw [bne_eq_false_iff_eq]; exact c21]
  obtain ⟨r, k1, k2⟩ := pint_j0 hb hl28
  refine ⟨r, yes h28 (yes (by omega) (yes c0 (yes (by omega) (yes c27 (yes (by omega) (yes c3 (yes (by omega) (yes c7 (yes (by omega) (yes c12 (yes (by omega) k1))))))))))), hr _ ?_⟩
  rw [show ((strOfNums [rd l 0, rd l 3, rd l 7, rd l 12, rd l 21, rd l 27]).toList != ([34, 45, 45, 32, 32, 34] : List UInt8)) = false by rw [bne_eq_false_iff_eq]; exact hiff.2 ⟨c0, c3, c7, c12, c21, c27⟩]
  exact k2
/-! a day -/
theorem splitL_part' (z : Int) : ∀ (l cur : List Int), ∀ p ∈ splitL z l cur, p.length ≤ l.length + cur.length := splitL_part z
theorem pday_j1' {l : List Int} (hb : byte l) (hl : l.length ≤ 200) : ∃ r : Int × Bool, Ev (fun k => date_ParseDay.j1 k (strOfNums l)) r ∧ Ev (fun k => letterboxref11_ParseDay.j1 k (strOfNums l)) r := by
  have hsp := ssplit_f l hb (by omega)
  have hrs := rsplit (strOfNums l) 45 (by rw [strOfNums_size]; omega)
  rw [bytes_str _ hb] at hrs
  have hg : ∀ p ∈ splitL 45 l [], byte p ∧ p.length ≤ 200 := fun p hp => ⟨splitL_byte 45 l [] hb byte_nil p hp, by have := splitL_part 45 l [] p hp; simp only [List.length_nil] at this; omega⟩
  generalize splitL 45 l [] = P at *
  have hs : (Chars.strs P).length = P.length := by unfold Chars.strs; rw [List.length_map]
  have hp0 : ∀ r, Ev (fun k => (some (Chars.strs P)).bind fun t202 => (if (t202.length : Int) = 3 then (if 1 < (t202.length : Int) then ((date_month.f (rdOf ByteArray.empty t202 1)).bind fun t206 => (if t206 < 0 then (some (0, false)) else (if 2 < (t202.length : Int) then ((date_digits.f k (rdOf ByteArray.empty t202 2) (([4] : List Int))).bind fun t211 => (if 0 < (t202.length : Int) then ((date_digits.f k (rdOf ByteArray.empty t202 0) (([1, 2] : List Int))).bind fun t216 => ((date_number.f k t211 t206 t216).bind fun bt217 => (some (bt217.1, bt217.2)))) else (none))) else (none)))) else (none)) else (some (0, false)))) r → Ev (fun k => date_ParseDay.j1 k (strOfNums l)) r := by
    intro r h
    refine st (fun k => by rw [date_ParseDay.j1]) ?_
    rw [hsp]
    exact h
  by_cases h3 : (P.length : Int) = 3
  case neg =>
    refine ⟨(0, false), hp0 _ (bs (no (by rw [hs]; exact h3) (fin rfl))), ?_⟩
    refine st (fun k => by rw [letterboxref11_ParseDay.j1]) ?_
    exact bnd hrs (no (by rw [hs]; exact h3) (fin rfl))
  have h0 : 0 < P.length := by omega
  have h1 : 1 < P.length := by omega
  have h2 : 2 < P.length := by omega
  have g0 := hg _ (List.getElem_mem h0)
  have g1 := hg _ (List.getElem_mem h1)
  have g2 := hg _ (List.getElem_mem h2)
  have e0 : rdOf ByteArray.empty (Chars.strs P) 0 = strOfNums P[0] := strs_at P 0 h0
  have e1 : rdOf ByteArray.empty (Chars.strs P) 1 = strOfNums P[1] := strs_at P 1 h1
  have e2 : rdOf ByteArray.empty (Chars.strs P) 2 = strOfNums P[2] := strs_at P 2 h2
  obtain ⟨m, pm, rm, m0, m1⟩ := month2 g1.1 (by omega)
  obtain ⟨y, py, ry, _, _⟩ := digits2 g2.1 (by omega) [4] 4 4 (by decide)
  obtain ⟨d, pd, rdd, _, _⟩ := digits2 g0.1 (by omega) [1, 2] 1 2 (by decide)
  obtain ⟨n, pn, rn, nb, nn⟩ := number2 y m d ⟨m0, m1⟩
  refine ⟨n, hp0 _ (bs ?_), ?_⟩
  · rw [hs, e0, e1, e2, pm]
    refine yes h3 (yes (by omega) (bs ?_))
    by_cases hm : m < 0
    · rw [nn hm]
      exact yes hm (fin rfl)
    · exact no hm (yes (by omega) (bnd py (yes (by omega) (bnd pd (bnd (pn (by omega)) (fin rfl))))))
  · refine st (fun k => by rw [letterboxref11_ParseDay.j1]) ?_
    refine bnd hrs ?_
    rw [hs, e0, e1, e2]
    exact yes h3 (yes (by omega) (bnd ry (yes (by omega) (bnd rm (yes (by omega) (bnd rdd (bnd rn (fin rfl))))))))
theorem pday2 {l : List Int} (hb : byte l) (hl : l.length ≤ 200) : ∃ r : Int × Bool, Ev (fun k => date_ParseDay.f k (strOfNums l)) r ∧ Ev (fun k => letterboxref11_ParseDay.f k (strOfNums l)) r := by
  have hF : ∃ r : Int × Bool, Ev (fun k => date_ParseDay.j0 k (strOfNums l) false) r ∧ Ev (fun k => letterboxref11_ParseDay.j0 k (strOfNums l) false) r := by
    obtain ⟨r, k1, k2⟩ := pday_j1' hb hl
    refine ⟨r, ?_, ?_⟩
    · refine st (fun k => by rw [date_ParseDay.j0]) ?_
      exact no (by decide) k1
    · refine st (fun k => by rw [letterboxref11_ParseDay.j0]) ?_
      exact no (by decide) k2
  unfold date_ParseDay.f letterboxref11_ParseDay.f
  rw [strOfNums_size, str_bt _ hb, str_bt _ hb]
  have w1 : wrap64 ((l.length : Int) - 1) = (l.length : Int) - 1 := w64 (by omega) (by omega)
  rw [w1]
  by_cases h1 : (l.length : Int) > 1
  case neg =>
    obtain ⟨r, k1, k2⟩ := hF
    exact ⟨r, no h1 k1, no h1 k2⟩
  by_cases h34 : rd l 0 = 34
  case neg =>
    obtain ⟨r, k1, k2⟩ := hF
    exact ⟨r, yes h1 (yes (by omega) (no h34 k1)), yes h1 (yes (by omega) (no h34 k2))⟩
  cases hlast : (rd l ((l.length : Int) - 1) == 34) with
  | false =>
    obtain ⟨r, k1, k2⟩ := hF
    exact ⟨r, yes h1 (yes (by omega) (yes h34 (yes (by omega) (yes (by omega) k1)))), yes h1 (yes (by omega) (yes h34 (yes (by omega) (yes (by omega) k2))))⟩
  | true =>
    have hx : (strOfNums l).extract 1 ((((l.length : Int) - 1) : Int).toNat) = strOfNums ((l.take (l.length - 1)).drop 1) := by
      rw [str_extract, show (((l.length : Int) - 1) : Int).toNat = l.length - 1 by omega]
    obtain ⟨r, k1, k2⟩ := pday_j1' (l := (l.take (l.length - 1)).drop 1) (byte_drop (byte_take hb _) 1) (by simp; omega)
    refine ⟨r, yes h1 (yes (by omega) (yes h34 (yes (by omega) (yes (by omega) ?_)))), yes h1 (yes (by omega) (yes h34 (yes (by omega) (yes (by omega) ?_))))⟩
    · refine st (fun k => by rw [date_ParseDay.j0]) ?_
      rw [strOfNums_size, w1, hx]
      exact yes rfl (yes (by omega) (yes (by omega) k1))
    · refine st (fun k => by rw [letterboxref11_ParseDay.j0]) ?_
      rw [strOfNums_size, w1, hx]
      exact yes rfl (yes (by omega) (yes (by omega) k2))
end Go.Proofs.YtmbiggcapakjjaaDoor.Dp
