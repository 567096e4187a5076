/- A moment's text as the document tells it: in plain words. -/
import Derived.Test.YtmbiggcapakjjaaDoorInt
import Derived.Test.YtmbiggcapakjjaaDoorPx11
import Derived.Test.YtmbiggcapakjjaaDoorPx12
import Derived.Test.YtmbiggcapakjjaaDoorPx13
set_option linter.unusedVariables false
set_option linter.unusedSimpArgs false
namespace Go.Proofs.YtmbiggcapakjjaaDoor.Int
open Go.RowKit Go.Proofs.YtmbiggcapakjjaaDoor.P Go.Proofs.YtmbiggcapakjjaaDoorW.PrintWords Go.Proofs.YtmbiggcapakjjaaDoorW.PrintLast Go.Proofs.YtmbiggcapakjjaaDoor.Aids Go.Proofs.YtmbiggcapakjjaaDoor.Chars Go.Proofs.YtmbiggcapakjjaaDoor.Cal Go.Proofs.YtmbiggcapakjjaaDoor.Txt
theorem rleap_f (y : Nat) : letterboxref11_leap.f (y : Int) = some (lp y) := by
  unfold letterboxref11_leap.f lp
  rw [show (4 : Int) = ((4 : Nat) : Int) from rfl, show (100 : Int) = ((100 : Nat) : Int) from rfl, show (400 : Int) = ((400 : Nat) : Int) from rfl, tm_of, tm_of, tm_of]
  by_cases h3 : y % 400 = 0
  · rw [if_pos (by omega)]
    simp [h3]
  · rw [if_neg (by omega)]
    by_cases h1 : y % 4 = 0
    · rw [if_pos (by omega)]
      by_cases h2 : y % 100 = 0
      · have : ((((y % 100 : Nat) : Int)) != 0) = false := by rw [bne_eq_false_iff_eq]; omega
        rw [this]
        simp [h1, h2, h3]
      · have : ((((y % 100 : Nat) : Int)) != 0) = true := by rw [bne_iff_ne]; omega
        rw [this]
        simp [h1, h2]
    · rw [if_neg (by omega)]
      simp [h1, h3]
theorem ryear_f (y : Nat) : letterboxref11_year.f (y : Int) = some (yl y : Int) := by
  unfold letterboxref11_year.f yl
  rw [rleap_f]
  cases lp y <;> rfl
theorem rdays_f (y m : Nat) : letterboxref11_days.f (y : Int) ((m + 1 : Nat) : Int) = some (ml y m : Int) := by
  unfold letterboxref11_days.f ml
  rw [rleap_f]
  by_cases h1 : m = 1
  · rw [if_pos (by omega), if_pos h1]
    cases lp y <;> rfl
  · rw [if_neg (by omega), if_neg h1]
    by_cases h3 : m = 3
    · rw [if_pos (by omega), if_pos h3]; rfl
    · rw [if_neg (by omega), if_neg h3]
      by_cases h5 : m = 5
      · rw [if_pos (by omega), if_pos h5]; rfl
      · rw [if_neg (by omega), if_neg h5]
        by_cases h8 : m = 8
        · rw [if_pos (by omega), if_pos h8]; rfl
        · rw [if_neg (by omega), if_neg h8]
          by_cases h10 : m = 10
          · rw [if_pos (by omega), if_pos h10]; rfl
          · rw [if_neg (by omega), if_neg h10]; rfl
theorem rtwo_f (n : Nat) (h : n ≤ 99) : letterboxref11_two.f (n : Int) = some (strOfNums (tw n)) := two_f n h
theorem rname_f (m : Nat) (h : m < 12) : letterboxref11_name.f ((m + 1 : Nat) : Int) = some (strOfNums (moL m)) := by
  have all : ∀ x : Fin 12, letterboxref11_name.f ((x.val + 1 : Nat) : Int) = some (strOfNums (moL x.val)) := by decide +kernel
  exact all ⟨m, h⟩
/-- how many days are ahead of a year, of the year 0 too -/
def AH (y : Nat) : Int := if y = 0 then -366 else (ah y : Int)
theorem AH_succ (y : Nat) : AH (y + 1) = AH y + (yl y : Int) := by
  unfold AH
  rw [if_neg (by omega)]
  by_cases h : y = 0
  · subst h
    rw [if_pos rfl]
    decide
  · rw [if_neg h, ah_succ y (by omega)]
    omega
theorem AH_up (y : Nat) : ∀ d : Nat, AH y + 365 * (d : Int) ≤ AH (y + d) := by
  intro d
  induction d with
  | zero => simp
  | succ d ih =>
    have h1 := AH_succ (y + d)
    have h2 := yl_le (y + d)
    rw [show y + (d + 1) = y + d + 1 by omega, h1]
    omega
theorem AH_hi {y : Nat} (h : y ≤ 10000) : AH y ≤ 3652059 ∧ -366 ≤ AH y := by
  have h1 := AH_up y (10000 - y)
  have h2 := AH_up 0 y
  rw [show y + (10000 - y) = 10000 by omega] at h1
  rw [Nat.zero_add] at h2
  have h3 : AH 10000 = 3652059 := by
    unfold AH
    rw [if_neg (by decide), ah_big.1]
    rfl
  have h4 : AH 0 = -366 := rfl
  omega
set_option maxHeartbeats 4000000 in
theorem rint_j9 (y m d s z : Nat) (neg : Bool) (hy : y ≤ 9999) (hm : m < 12) (hd : d ≤ 31) (hs : s < 86400) (hz : z < 1440) :
    Ev (fun k => letterboxref11_Internal.j9 k (s : Int) (y : Int) ((m + 1 : Nat) : Int) (strOfNums (dL d)) (z : Int) (strOfNums [sg neg])) (strOfNums (iT y m d s neg z)) := by
  have hw := rname_f m hm
  have hwl := (mo_is m hm).2.1
  have hdl := dL_len d
  have e1 : wrap64 (Int.tdiv (y : Int) 100) = ((y / 100 : Nat) : Int) := by
    rw [Int.tdiv_eq_ediv_of_nonneg (Int.natCast_nonneg y), w64 (by omega) (by omega)]; omega
  have e2 : Int.tmod (y : Int) 100 = ((y % 100 : Nat) : Int) := by
    rw [Int.tmod_eq_emod_of_nonneg (Int.natCast_nonneg y)]; omega
  have e3 : wrap64 (Int.tdiv (s : Int) 3600) = ((s / 3600 : Nat) : Int) := by
    rw [Int.tdiv_eq_ediv_of_nonneg (Int.natCast_nonneg s), w64 (by omega) (by omega)]; omega
  have e4 : wrap64 (Int.tdiv (s : Int) 60) = ((s / 60 : Nat) : Int) := by
    rw [Int.tdiv_eq_ediv_of_nonneg (Int.natCast_nonneg s), w64 (by omega) (by omega)]; omega
  have e5 : Int.tmod ((s / 60 : Nat) : Int) 60 = ((s / 60 % 60 : Nat) : Int) := by
    rw [Int.tmod_eq_emod_of_nonneg (Int.natCast_nonneg _)]; omega
  have e6 : Int.tmod (s : Int) 60 = ((s % 60 : Nat) : Int) := by
    rw [Int.tmod_eq_emod_of_nonneg (Int.natCast_nonneg s)]; omega
  have e7 : wrap64 (Int.tdiv (z : Int) 60) = ((z / 60 : Nat) : Int) := by
    rw [Int.tdiv_eq_ediv_of_nonneg (Int.natCast_nonneg z), w64 (by omega) (by omega)]; omega
  have e8 : Int.tmod (z : Int) 60 = ((z % 60 : Nat) : Int) := by
    rw [Int.tmod_eq_emod_of_nonneg (Int.natCast_nonneg z)]; omega
  refine st (fun k => by rw [letterboxref11_Internal.j9]) ?_
  simp only [hw, e1, e2, e3, e4, e5, e6, e7, e8, rtwo_f (y / 100) (by omega), rtwo_f (y % 100) (by omega), rtwo_f (s / 3600) (by omega), rtwo_f (s / 60 % 60) (by omega), rtwo_f (s % 60) (by omega), rtwo_f (z / 60) (by omega), rtwo_f (z % 60) (by omega), Option.bind_some]
  clear e1 e2 e3 e4 e5 e6 e7 e8
  simp only [show (⟨#[34]⟩ : ByteArray) = strOfNums [34] from rfl, show (⟨#[45]⟩ : ByteArray) = strOfNums [45] from rfl, show (⟨#[32]⟩ : ByteArray) = strOfNums [32] from rfl, show (⟨#[58]⟩ : ByteArray) = strOfNums [58] from rfl, str_append, strOfNums_size]
  simp only [tw_len, hwl, hdl, List.length_append, List.length_cons, List.length_nil, Nat.reduceAdd, Nat.reduceLeDiff, if_true]
  refine fin ?_
  congr 1
  unfold iT
  simp [List.append_assoc]
theorem rint_l2 {N y m d : Nat} (h : isDay N y m d) (s : Nat) (hs : s < 86400) (sec zone : Int) (hz : -1440 < zone ∧ zone < 1440) : ∀ (c m' : Nat), m - m' ≤ c → m' ≤ m → Ev (fun k => letterboxref11_Internal.l2 k (s : Int) ((N : Int) - AH y - (cu y m' : Int)) (y : Int) ((m' + 1 : Nat) : Int) sec zone) (strOfNums (iT y m d s (decide (zone < 0)) zone.natAbs)) := by
  have hlt := day_lt h
  obtain ⟨d1, d2, d3, d4, d5, d6⟩ := h
  have hA : AH y = (ah y : Int) := if_neg (by omega)
  rw [hA]
  have hml := ml_pos y m
  intro c
  have hend : Ev (fun k => letterboxref11_Internal.l2 k (s : Int) ((N : Int) - (ah y : Int) - (cu y m : Int)) (y : Int) ((m + 1 : Nat) : Int) sec zone) (strOfNums (iT y m d s (decide (zone < 0)) zone.natAbs)) := by
    have e0 : (N : Int) - (ah y : Int) - (cu y m : Int) = ((d - 1 : Nat) : Int) := by omega
    rw [e0]
    have e1 : Aside0 (wrap64 (((d - 1 : Nat) : Int) + 1) = (d : Int)) := ⟨by rw [w64 (by omega) (by omega)]; omega⟩
    refine st (fun k => by rw [letterboxref11_Internal.l2]) ?_
    rw [rdays_f, e1.out, rtwo_f d (by omega)]
    refine bs (no (by omega) (bs ?_))
    have hJ8 : Ev (fun k => letterboxref11_Internal.j8 k (s : Int) (y : Int) ((m + 1 : Nat) : Int) (strOfNums (dL d)) sec zone) (strOfNums (iT y m d s (decide (zone < 0)) zone.natAbs)) := by
      refine st (fun k => by rw [letterboxref11_Internal.j8]) ?_
      by_cases hz0 : zone < 0
      · refine yes hz0 ?_
        rw [decide_eq_true hz0]
        have e3 : Aside0 (wrap64 (-zone) = (zone.natAbs : Int)) := ⟨by rw [w64 (by omega) (by omega)]; omega⟩
        rw [e3.out, show (⟨#[45]⟩ : ByteArray) = strOfNums [sg true] from rfl]
        exact rint_j9 y m d s zone.natAbs true d2 d3 (by omega) hs (by omega)
      · refine no hz0 ?_
        rw [decide_eq_false hz0]
        have e3 : zone = (zone.natAbs : Int) := by omega
        rw [show (⟨#[43]⟩ : ByteArray) = strOfNums [sg false] from rfl]
        have := rint_j9 y m d s zone.natAbs false d2 d3 (by omega) hs (by omega)
        rw [← e3] at this
        exact this
    by_cases h10 : d < 10
    · refine yes (by omega) (yes (by rw [strOfNums_size, tw_len]; decide) ?_)
      have ex : (strOfNums (tw d)).extract 1 (strOfNums (tw d)).size = strOfNums [48 + (d : Int)] := by
        rw [strOfNums_size, str_extract, List.take_length]
        unfold tw
        rw [show d % 10 = d by omega]
        rfl
      rw [ex]
      refine yes (by rw [strOfNums_size, List.length_cons, List.length_nil]; decide) ?_
      have e : (⟨#[32]⟩ : ByteArray) ++ strOfNums [48 + (d : Int)] = strOfNums (dL d) := by
        rw [show (⟨#[32]⟩ : ByteArray) = strOfNums [32] from rfl, str_append]
        unfold dL
        rw [if_pos h10]
        rfl
      rw [e]
      exact hJ8
    · refine no (by omega) ?_
      have e : tw d = dL d := by unfold dL; rw [if_neg h10]
      rw [e]
      exact hJ8
  induction c with
  | zero =>
    intro m' h1 h2
    have : m' = m := by omega
    subst this
    exact hend
  | succ c ih =>
    intro m' h1 h2
    rcases Nat.lt_or_ge m' m with hlt' | hge
    · have h7 := cu_up y (m' + 1) (m - (m' + 1))
      rw [show m' + 1 + (m - (m' + 1)) = m by omega] at h7
      have h8 : cu y (m' + 1) = cu y m' + ml y m' := rfl
      have hm' := ml_pos y m'
      have e1 : Aside0 (wrap64 ((N : Int) - (ah y : Int) - (cu y m' : Int) - (ml y m' : Int)) = (N : Int) - (ah y : Int) - (cu y (m' + 1) : Int)) := ⟨by rw [w64 (by omega) (by omega)]; omega⟩
      have e2 : Aside0 (wrap64 (((m' + 1 : Nat) : Int) + 1) = ((m' + 1 + 1 : Nat) : Int)) := ⟨by rw [w64 (by omega) (by omega)]; omega⟩
      refine st (fun k => by rw [letterboxref11_Internal.l2]) ?_
      rw [rdays_f]
      refine bs (yes (by omega) (bs ?_))
      rw [e1.out, e2.out]
      exact ih (m' + 1) (by omega) (by omega)
    · have : m' = m := by omega
      subst this
      exact hend
theorem rint_l1 {N y m d : Nat} (h : isDay N y m d) (s : Nat) (hs : s < 86400) (sec zone : Int) (hz : -1440 < zone ∧ zone < 1440) : ∀ (c y' : Nat), y - y' ≤ c → 1 ≤ y' → y' ≤ y → Ev (fun k => letterboxref11_Internal.l1 k (s : Int) ((N : Int) - AH y') (y' : Int) sec zone) (strOfNums (iT y m d s (decide (zone < 0)) zone.natAbs)) := by
  have hlt := day_lt h
  have hl2 := rint_l2 h s hs sec zone hz m 0 (by omega) (by omega)
  obtain ⟨d1, d2, d3, d4, d5, d6⟩ := h
  have hml := ml_pos y m
  have h7 := cu_up y (m + 1) (11 - m)
  rw [show m + 1 + (11 - m) = 12 by omega, yl_12] at h7
  have h8 : cu y (m + 1) = cu y m + ml y m := rfl
  have hA : AH y = (ah y : Int) := if_neg (by omega)
  intro c
  have hend : Ev (fun k => letterboxref11_Internal.l1 k (s : Int) ((N : Int) - AH y) (y : Int) sec zone) (strOfNums (iT y m d s (decide (zone < 0)) zone.natAbs)) := by
    refine st (fun k => by rw [letterboxref11_Internal.l1]) ?_
    rw [ryear_f]
    refine yes (by omega) (bs (no (by omega) ?_))
    refine st (fun k => by rw [letterboxref11_Internal.j5]) ?_
    refine no (by omega) (no (by omega) ?_)
    rw [decide_eq_false (by omega)]
    refine st (fun k => by rw [letterboxref11_Internal.j6]) ?_
    refine no (by decide) ?_
    have : (N : Int) - AH y - (cu y 0 : Int) = (N : Int) - AH y := by
      show (N : Int) - AH y - ((0 : Nat) : Int) = _
      omega
    rw [this] at hl2
    exact hl2
  induction c with
  | zero =>
    intro y' h1 h2 h3
    have : y' = y := by omega
    subst this
    exact hend
  | succ c ih =>
    intro y' h1 h2 h3
    rcases Nat.lt_or_ge y' y with hlt' | hge
    · have hs1 := AH_succ y'
      have hup := AH_up (y' + 1) (y - (y' + 1))
      rw [show y' + 1 + (y - (y' + 1)) = y by omega] at hup
      have hhi := AH_hi (y := y') (by omega)
      have hyl := yl_le y'
      have e1 : Aside0 (wrap64 ((N : Int) - AH y' - (yl y' : Int)) = (N : Int) - AH (y' + 1)) := ⟨by rw [w64 (by omega) (by omega)]; omega⟩
      have e2 : Aside0 (wrap64 ((y' : Int) + 1) = ((y' + 1 : Nat) : Int)) := ⟨by rw [w64 (by omega) (by omega)]; omega⟩
      refine st (fun k => by rw [letterboxref11_Internal.l1]) ?_
      rw [ryear_f]
      refine yes (by omega) (bs (yes (by omega) (bs ?_)))
      rw [e1.out, e2.out]
      exact ih (y' + 1) (by omega) (by omega) (by omega)
    · have : y' = y := by omega
      subst this
      exact hend
theorem rint_l0 {N y m d : Nat} (h : isDay N y m d) (s : Nat) (hs : s < 86400) (sec zone : Int) (hz : -1440 < zone ∧ zone < 1440) : ∀ (y' : Nat), y' ≤ 1970 → (y' = 1970 ∨ (N : Int) < AH (y' + 1)) → 1 ≤ y' → Ev (fun k => letterboxref11_Internal.l0 k (s : Int) ((N : Int) - AH y') (y' : Int) sec zone) (strOfNums (iT y m d s (decide (zone < 0)) zone.natAbs)) := by
  have hlt := day_lt h
  have hl1 := rint_l1 h s hs sec zone hz
  obtain ⟨d1, d2, d3, d4, d5, d6⟩ := h
  have hA : AH y = (ah y : Int) := if_neg (by omega)
  have h1A : AH 1 = 0 := by decide
  intro y'
  induction y' with
  | zero => intro _ _ h; omega
  | succ y' ih =>
    intro h1 h2 h3
    have hhi := AH_hi (y := y' + 1) (by omega)
    refine st (fun k => by rw [letterboxref11_Internal.l0]) ?_
    by_cases hneg : (N : Int) - AH (y' + 1) < 0
    · refine yes hneg (yes (by omega) ?_)
      have hy0 : y' ≠ 0 := by
        intro e
        subst e
        rw [h1A] at hneg
        omega
      have hs1 := AH_succ y'
      have hyl := yl_le y'
      have e2 : Aside0 (wrap64 (((y' + 1 : Nat) : Int) - 1) = (y' : Int)) := ⟨by rw [w64 (by omega) (by omega)]; omega⟩
      have e1 : Aside0 (wrap64 ((N : Int) - AH (y' + 1) + (yl y' : Int)) = (N : Int) - AH y') := ⟨by rw [w64 (by omega) (by omega)]; omega⟩
      rw [e2.out, ryear_f]
      refine bs ?_
      rw [e1.out]
      exact ih (by omega) (.inr (by omega)) (by omega)
    · refine no hneg ?_
      refine st (fun k => by rw [letterboxref11_Internal.j3]) ?_
      refine hl1 (y - (y' + 1)) (y' + 1) (Nat.le_refl _) h3 ?_
      rcases Nat.lt_or_ge y (y' + 1) with hc | hc
      · exfalso
        have hup := AH_up (y + 1) (y' + 1 - (y + 1))
        rw [show y + 1 + (y' + 1 - (y + 1)) = y' + 1 by omega] at hup
        have hs1 := AH_succ y
        have h7 := cu_up y (m + 1) (11 - m)
        rw [show m + 1 + (11 - m) = 12 by omega, yl_12] at h7
        have h8 : cu y (m + 1) = cu y m + ml y m := rfl
        omega
      · exact hc
theorem tm_86400 (a : Int) : Int.tmod a 86400 = if 0 ≤ a then a % 86400 else -((-a) % 86400) := by
  by_cases h : 0 ≤ a
  · rw [if_pos h, Int.tmod_eq_emod_of_nonneg h]
  · rw [if_neg h]
    obtain ⟨n, hn⟩ : ∃ n : Nat, a = -(n : Int) := ⟨(-a).toNat, by omega⟩
    subst hn
    rw [Int.neg_tmod, Int.tmod_eq_emod_of_nonneg (Int.natCast_nonneg n), Int.neg_neg]
theorem td_exact (q : Int) : Int.tdiv (86400 * q) 86400 = q := by
  rw [Int.mul_comm]
  exact Int.mul_tdiv_cancel q (by decide)
theorem rint_begin (sec zone : Int) (h1 : -1099511627776 ≤ sec ∧ sec ≤ 1099511627776) (h2 : -1440 < zone ∧ zone < 1440) {r : ByteArray}
    (h : Ev (fun k => letterboxref11_Internal.l0 k (((sec + 60 * zone) % 86400).toNat : Int) ((sec + 60 * zone) / 86400) 1970 sec zone) r) : Ev (fun k => letterboxref11_Internal.f k sec zone) r := by
  have e1 : wrap64 (sec + wrap64 (60 * zone)) = sec + 60 * zone := by
    rw [w64 (x := 60 * zone) (by omega) (by omega), w64 (by omega) (by omega)]
  have hJ1 : Ev (fun k => letterboxref11_Internal.j1 k (sec + 60 * zone) ((sec + 60 * zone) % 86400) sec zone) r := by
    refine st (fun k => by rw [letterboxref11_Internal.j1]) ?_
    have e3 : Aside0 (wrap64 (sec + 60 * zone - (sec + 60 * zone) % 86400) = 86400 * ((sec + 60 * zone) / 86400)) := ⟨by rw [w64 (by omega) (by omega)]; omega⟩
    rw [e3.out, td_exact, w64 (by omega) (by omega)]
    have e4 : (sec + 60 * zone) % 86400 = (((sec + 60 * zone) % 86400).toNat : Int) := by omega
    rw [e4]
    exact h
  unfold letterboxref11_Internal.f
  refine no (by omega) (no (by omega) (no (by omega) ?_))
  rw [decide_eq_false (by omega)]
  refine st (fun k => by rw [letterboxref11_Internal.j0]) ?_
  rw [e1, tm_86400]
  refine no (by decide) ?_
  by_cases hp : 0 ≤ sec + 60 * zone
  · rw [if_pos hp]
    exact no (by omega) hJ1
  · rw [if_neg hp]
    by_cases h0 : -((-(sec + 60 * zone)) % 86400) < 0
    · refine yes h0 ?_
      have e5 : Aside0 (wrap64 (-((-(sec + 60 * zone)) % 86400) + 86400) = (sec + 60 * zone) % 86400) := ⟨by rw [w64 (by omega) (by omega)]; omega⟩
      rw [e5.out]
      exact hJ1
    · refine no h0 ?_
      have e5 : -((-(sec + 60 * zone)) % 86400) = (sec + 60 * zone) % 86400 := by omega
      rw [e5]
      exact hJ1
theorem rint_ok (sec zone : Int) (h1 : -1099511627776 ≤ sec ∧ sec ≤ 1099511627776) (h2 : -1440 < zone ∧ zone < 1440) {y m d : Nat} (h3 : 0 ≤ (sec + 60 * zone) / 86400 + 719162)
    (h : isDay ((sec + 60 * zone) / 86400 + 719162).toNat y m d) : Ev (fun k => letterboxref11_Internal.f k sec zone) (strOfNums (iT y m d ((sec + 60 * zone) % 86400).toNat (decide (zone < 0)) zone.natAbs)) := by
  refine rint_begin sec zone h1 h2 ?_
  have hA : AH 1970 = 719162 := by
    unfold AH
    rw [if_neg (by decide), ah_big.2]
    rfl
  have := rint_l0 h ((sec + 60 * zone) % 86400).toNat (by omega) sec zone h2 1970 (by decide) (.inl rfl) (by decide)
  rw [hA] at this
  have e : (((sec + 60 * zone) / 86400 + 719162).toNat : Int) - 719162 = (sec + 60 * zone) / 86400 := by omega
  rw [e] at this
  exact this
/-! a year that is none -/
theorem rint_l1_hi (N : Int) (hN : 3652059 ≤ N) (hb : N ≤ 4611686018427387904) (s sec zone : Int) : ∀ (c y : Nat), 10000 - y ≤ c → y ≤ 10000 → Ev (fun k => letterboxref11_Internal.l1 k s (N - AH y) (y : Int) sec zone) (strOfNums []) := by
  intro c
  have hend : Ev (fun k => letterboxref11_Internal.l1 k s (N - AH 10000) ((10000 : Nat) : Int) sec zone) (strOfNums []) := by
    refine st (fun k => by rw [letterboxref11_Internal.l1]) ?_
    refine no (by decide) ?_
    refine st (fun k => by rw [letterboxref11_Internal.j5]) ?_
    refine no (by decide) (yes (by decide) ?_)
    refine st (fun k => by rw [letterboxref11_Internal.j6]) ?_
    exact yes rfl (fin rfl)
  induction c with
  | zero =>
    intro y h1 h2
    have : y = 10000 := by omega
    subst this
    exact hend
  | succ c ih =>
    intro y h1 h2
    rcases Nat.lt_or_ge y 10000 with hlt' | hge
    · have hs1 := AH_succ y
      have hhi := AH_hi (y := y + 1) (by omega)
      have hhi0 := AH_hi (y := y) (by omega)
      have e1 : Aside0 (wrap64 (N - AH y - (yl y : Int)) = N - AH (y + 1)) := ⟨by rw [w64 (by omega) (by omega)]; omega⟩
      have e2 : Aside0 (wrap64 ((y : Int) + 1) = ((y + 1 : Nat) : Int)) := ⟨by rw [w64 (by omega) (by omega)]; omega⟩
      refine st (fun k => by rw [letterboxref11_Internal.l1]) ?_
      rw [ryear_f]
      refine yes (by omega) (bs (yes (by omega) (bs ?_)))
      rw [e1.out, e2.out]
      exact ih (y + 1) (by omega) (by omega)
    · have : y = 10000 := by omega
      subst this
      exact hend
theorem rint_l0_lo (N : Int) (hN : N < 0) (hb : -4611686018427387904 ≤ N) (s sec zone : Int) : ∀ (y : Nat), y ≤ 1970 → Ev (fun k => letterboxref11_Internal.l0 k s (N - AH y) (y : Int) sec zone) (strOfNums []) := by
  intro y
  induction y with
  | zero =>
    intro _
    have h0 : AH 0 = -366 := rfl
    have hj : Ev (fun k => letterboxref11_Internal.j3 k s (N - AH 0) ((0 : Nat) : Int) sec zone) (strOfNums []) := by
      refine st (fun k => by rw [letterboxref11_Internal.j3]) ?_
      refine st (fun k => by rw [letterboxref11_Internal.l1]) ?_
      rw [ryear_f, h0]
      have : yl 0 = 366 := by decide
      rw [this]
      refine yes (by decide) (bs (no (by omega) ?_))
      refine st (fun k => by rw [letterboxref11_Internal.j5]) ?_
      refine yes (by decide) ?_
      refine st (fun k => by rw [letterboxref11_Internal.j6]) ?_
      exact yes rfl (fin rfl)
    refine st (fun k => by rw [letterboxref11_Internal.l0]) ?_
    by_cases hn : N - AH 0 < 0
    · exact yes hn (no (by decide) hj)
    · exact no hn hj
  | succ y ih =>
    intro h1
    have hs1 := AH_succ y
    have h1A : AH 1 = 0 := by decide
    have hup := AH_up 1 y
    rw [show 1 + y = y + 1 by omega, h1A] at hup
    have hhi := AH_hi (y := y + 1) (by omega)
    have hhi0 := AH_hi (y := y) (by omega)
    have e2 : Aside0 (wrap64 (((y + 1 : Nat) : Int) - 1) = (y : Int)) := ⟨by rw [w64 (by omega) (by omega)]; omega⟩
    have e1 : Aside0 (wrap64 (N - AH (y + 1) + (yl y : Int)) = N - AH y) := ⟨by rw [w64 (by omega) (by omega)]; omega⟩
    refine st (fun k => by rw [letterboxref11_Internal.l0]) ?_
    rw [e2.out, ryear_f]
    refine yes (by omega) (yes (by omega) (bs ?_))
    rw [e1.out]
    exact ih (by omega)
theorem rint_out (sec zone : Int) (h1 : -1099511627776 ≤ sec ∧ sec ≤ 1099511627776) (h2 : -1440 < zone ∧ zone < 1440) (h : (sec + 60 * zone) / 86400 + 719162 < 0 ∨ 3652059 ≤ (sec + 60 * zone) / 86400 + 719162) : Ev (fun k => letterboxref11_Internal.f k sec zone) (strOfNums []) := by
  refine rint_begin sec zone h1 h2 ?_
  have hA : AH 1970 = 719162 := by
    unfold AH
    rw [if_neg (by decide), ah_big.2]
    rfl
  have e : (sec + 60 * zone) / 86400 = ((sec + 60 * zone) / 86400 + 719162) - AH 1970 := by rw [hA]; omega
  rcases h with h | h
  · have := rint_l0_lo ((sec + 60 * zone) / 86400 + 719162) h (by omega) (((sec + 60 * zone) % 86400).toNat : Int) sec zone 1970 (by decide)
    rw [← e] at this
    exact this
  · have := rint_l1_hi ((sec + 60 * zone) / 86400 + 719162) h (by omega) (((sec + 60 * zone) % 86400).toNat : Int) sec zone (10000 - 1970) 1970 (by decide) (by decide)
    rw [← e] at this
    refine st (fun k => by rw [letterboxref11_Internal.l0]) ?_
    refine no (by omega) ?_
    refine st (fun k => by rw [letterboxref11_Internal.j3]) ?_
    exact this
theorem int_out (sec zone : Int) (h1 : -1099511627776 ≤ sec ∧ sec ≤ 1099511627776) (h2 : -1440 < zone ∧ zone < 1440) (h : (sec + 60 * zone) / 86400 + 719162 < 0 ∨ 3652059 ≤ (sec + 60 * zone) / 86400 + 719162) : Ev (fun k => date_Internal.f k sec zone) (strOfNums []) := by
  have e1 : wrap64 (sec + wrap64 (zone * 60)) = sec + 60 * zone := by
    rw [w64 (x := zone * 60) (by omega) (by omega), w64 (by omega) (by omega)]; omega
  unfold date_Internal.f
  refine no (by omega) (no (by omega) (no (by omega) ?_))
  rw [decide_eq_false (by omega)]
  refine st (fun k => by rw [date_Internal.j0]) ?_
  rw [e1, floor_f _ (by omega)]
  refine no (by decide) (bs ?_)
  refine bnd (civil_out _ (by omega) h) ?_
  exact no (by simp) (fin rfl)
theorem rday_f (sec zone : Int) (h1 : -4611686018427387904 ≤ sec + 60 * zone ∧ sec + 60 * zone ≤ 4611686018427387904) (h2 : -4611686018427387904 ≤ 60 * zone ∧ 60 * zone ≤ 4611686018427387904) : letterboxref11_Day.f sec zone = some ((sec + 60 * zone) / 86400) := by
  have e1 : wrap64 (sec + wrap64 (60 * zone)) = sec + 60 * zone := by
    rw [w64 (x := 60 * zone) (by omega) (by omega), w64 (by omega) (by omega)]
  have hf := floor_f (sec + 60 * zone) h1
  unfold date_floor.f at hf
  rw [if_neg (by decide)] at hf
  unfold letterboxref11_Day.f
  rw [e1]
  exact hf
end Go.Proofs.YtmbiggcapakjjaaDoor.Int
