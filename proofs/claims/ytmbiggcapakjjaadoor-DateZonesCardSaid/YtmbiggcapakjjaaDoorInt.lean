/- A moment's text as the program tells it, and as it is read again: in plain words. -/
import Derived.Test.YtmbiggcapakjjaaDoorCal
import Derived.Test.YtmbiggcapakjjaaDoorTxt
import Derived.Test.YtmbiggcapakjjaaDoorPx9
import Derived.Test.YtmbiggcapakjjaaDoorPx7
set_option linter.unusedVariables false
set_option linter.unusedSimpArgs false
namespace Go.Proofs.YtmbiggcapakjjaaDoor.Int
open Go.RowKit Go.Proofs.YtmbiggcapakjjaaDoor.P Go.Proofs.YtmbiggcapakjjaaDoorW.PrintWords Go.Proofs.YtmbiggcapakjjaaDoorW.PrintLast Go.Proofs.YtmbiggcapakjjaaDoor.Aids Go.Proofs.YtmbiggcapakjjaaDoor.Chars Go.Proofs.YtmbiggcapakjjaaDoor.Cal Go.Proofs.YtmbiggcapakjjaaDoor.Txt
/-- a day in its text -/
def dL (d : Nat) : List Int := if d < 10 then [32, 48 + (d : Int)] else tw d
def sg (neg : Bool) : Int := if neg = true then 45 else 43
/-- a moment's text -/
def iT (y m d s : Nat) (neg : Bool) (z : Nat) : List Int :=
  34 :: (dL d ++ 45 :: (moL m ++ 45 :: (tw (y / 100) ++ tw (y % 100) ++ 32 :: (tw (s / 3600) ++ 58 :: (tw (s / 60 % 60) ++ 58 :: (tw (s % 60) ++ 32 :: sg neg :: (tw (z / 60) ++ tw (z % 60) ++ [34])))))))
theorem dL_byte (d : Nat) (h : d ≤ 31) : byte (dL d) := by
  unfold dL
  split
  · exact byte_cons (by omega) (byte_one (by omega) (by omega))
  · exact tw_byte d (by omega)
theorem dL_len (d : Nat) : (dL d).length = 2 := by
  unfold dL
  split <;> rfl
theorem floor_f (a : Int) (hb : -4611686018427387904 ≤ a ∧ a ≤ 4611686018427387904) : date_floor.f a 86400 = some (a / 86400) := by
  unfold date_floor.f
  rw [if_neg (by decide)]
  rcases Int.le_total 0 a with h | h
  · rw [Int.tmod_eq_emod_of_nonneg h, Int.tdiv_eq_ediv_of_nonneg h, if_neg (by omega), w64 (by omega) (by omega)]
  · obtain ⟨n, hn⟩ : ∃ n : Nat, a = -(n : Int) := ⟨(-a).toNat, by omega⟩
    subst hn
    rw [Int.neg_tmod, Int.neg_tdiv, Int.tmod_eq_emod_of_nonneg (Int.natCast_nonneg n), Int.tdiv_eq_ediv_of_nonneg (Int.natCast_nonneg n)]
    by_cases h1 : -((n : Int) % 86400) < 0
    · rw [if_pos h1, w64 (x := -((n : Int) / 86400)) (by omega) (by omega), w64 (by omega) (by omega)]
      congr 1
      omega
    · rw [if_neg h1, w64 (by omega) (by omega)]
      congr 1
      omega
theorem digit_1 (d : Nat) (h1 : 1 ≤ d) (h : d < 10) : Ev (fun k => chars_Digits.f k (d : Int)) (strOfNums [48 + (d : Int)]) := by
  have all : ∀ x : Fin 10, 1 ≤ x.val → chars_Digits.f 40 ((x.val : Nat) : Int) = some (strOfNums [48 + ((x.val : Nat) : Int)]) := by decide +kernel
  exact evk (fun k => chars_Digits.mono _ k) 40 (all ⟨d, h⟩ h1)
theorem tw_len (n : Nat) : (tw n).length = 2 := rfl
set_option maxHeartbeats 4000000 in
theorem int_j2 (y m d s z : Nat) (neg : Bool) (hy : y ≤ 9999) (hm : m < 12) (hd : d ≤ 31) (hs : s < 86400) (hz : z < 1440) :
    Ev (fun k => date_Internal.j2 k (y : Int) (m : Int) (s : Int) (strOfNums [sg neg]) (z : Int) (strOfNums (dL d))) (strOfNums (iT y m d s neg z)) := by
  obtain ⟨hw, hwl, _, _⟩ := mo_is m hm
  have hdl := dL_len d
  have e1 : wrap64 (Int.tdiv (y : Int) 100) = ((y / 100 : Nat) : Int) := by
    rw [Int.tdiv_eq_ediv_of_nonneg (Int.natCast_nonneg y), w64 (by omega) (by omega)]; omega
  have e2 : Int.tmod (y : Int) 100 = ((y % 100 : Nat) : Int) := by
    rw [Int.tmod_eq_emod_of_nonneg (Int.natCast_nonneg y)]; omega
  have e3 : wrap64 (Int.tdiv (s : Int) 3600) = ((s / 3600 : Nat) : Int) := by
    rw [Int.tdiv_eq_ediv_of_nonneg (Int.natCast_nonneg s), w64 (by omega) (by omega)]; omega
  have e4 : wrap64 (Int.tdiv (s : Int) 60) = ((s / 60 : Nat) : Int) := by
    rw [Int.tdiv_eq_ediv_of_nonneg (Int.natCast_nonneg s), w64 (by omega) (by omega)]; omega
  have e5 : Int.tmod ((s / 60 : Nat) : Int) 60 = ((s / 60 % 60 : Nat) : Int) := by
    rw [Int.tmod_eq_emod_of_nonneg (Int.natCast_nonneg _)]; omega
  have e6 : Int.tmod (s : Int) 60 = ((s % 60 : Nat) : Int) := by
    rw [Int.tmod_eq_emod_of_nonneg (Int.natCast_nonneg s)]; omega
  have e7 : wrap64 (Int.tdiv (z : Int) 60) = ((z / 60 : Nat) : Int) := by
    rw [Int.tdiv_eq_ediv_of_nonneg (Int.natCast_nonneg z), w64 (by omega) (by omega)]; omega
  have e8 : Int.tmod (z : Int) 60 = ((z % 60 : Nat) : Int) := by
    rw [Int.tmod_eq_emod_of_nonneg (Int.natCast_nonneg z)]; omega
  refine st (fun k => by rw [date_Internal.j2]) ?_
  simp only [hw, e1, e2, e3, e4, e5, e6, e7, e8, two_f (y / 100) (by omega), two_f (y % 100) (by omega), two_f (s / 3600) (by omega), two_f (s / 60 % 60) (by omega), two_f (s % 60) (by omega), two_f (z / 60) (by omega), two_f (z % 60) (by omega), Option.bind_some]
  clear e1 e2 e3 e4 e5 e6 e7 e8
  simp only [show (⟨#[34]⟩ : ByteArray) = strOfNums [34] from rfl, show (⟨#[45]⟩ : ByteArray) = strOfNums [45] from rfl, show (⟨#[32]⟩ : ByteArray) = strOfNums [32] from rfl, show (⟨#[58]⟩ : ByteArray) = strOfNums [58] from rfl, str_append, strOfNums_size]
  have hm0 : (0 : Int) ≤ (m : Int) := Int.natCast_nonneg _
  have hm1 : (m : Int) < 12 := by omega
  simp only [hm0, hm1, tw_len, hwl, hdl, List.length_append, List.length_cons, List.length_nil, Nat.reduceAdd, Nat.reduceLeDiff, if_true]
  refine fin ?_
  congr 1
  unfold iT
  simp [List.append_assoc]
theorem int_ok (sec zone : Int) (h1 : -1099511627776 ≤ sec ∧ sec ≤ 1099511627776) (h2 : -1440 < zone ∧ zone < 1440) (h3 : 0 ≤ (sec + 60 * zone) / 86400 + 719162 ∧ (sec + 60 * zone) / 86400 + 719162 < 3652059) :
    ∃ y m d, isDay ((sec + 60 * zone) / 86400 + 719162).toNat y m d ∧ Ev (fun k => date_Internal.f k sec zone) (strOfNums (iT y m d ((sec + 60 * zone) % 86400).toNat (decide (zone < 0)) zone.natAbs)) := by
  obtain ⟨y, m, d, hd, hC⟩ := civil_in ((sec + 60 * zone) / 86400) h3.1 h3.2
  refine ⟨y, m, d, hd, ?_⟩
  obtain ⟨d1, d2, d3, d4, d5, d6⟩ := hd
  have hml := ml_pos y m
  have e1 : wrap64 (sec + wrap64 (zone * 60)) = sec + 60 * zone := by
    rw [w64 (x := zone * 60) (by omega) (by omega), w64 (by omega) (by omega)]; omega
  have hfl := floor_f (sec + 60 * zone) (by omega)
  have e2 : wrap64 (sec + 60 * zone - wrap64 ((sec + 60 * zone) / 86400 * 86400)) = (((sec + 60 * zone) % 86400).toNat : Int) := by
    rw [w64 (x := (sec + 60 * zone) / 86400 * 86400) (by omega) (by omega), w64 (by omega) (by omega)]; omega
  have hs : ((sec + 60 * zone) % 86400).toNat < 86400 := by omega
  unfold date_Internal.f
  refine no (by omega) ?_
  refine no (by omega) ?_
  refine no (by omega) ?_
  rw [decide_eq_false (by omega)]
  refine st (fun k => by rw [date_Internal.j0]) ?_
  rw [e1, hfl]
  clear hfl
  generalize ((sec + 60 * zone) % 86400).toNat = s at *
  refine no (by decide) ?_
  refine bs ?_
  refine bnd hC ?_
  refine yes rfl ?_
  rw [e2]
  have hJ : ∀ neg : Bool, ∀ z : Nat, z < 1440 → Ev (fun k => date_Internal.j1 k (y : Int) (m : Int) (d : Int) (s : Int) (strOfNums [sg neg]) (z : Int)) (strOfNums (iT y m d s neg z)) := by
    intro neg z hz
    have hj := int_j2 y m d s z neg d2 d3 (by omega) hs hz
    refine st (fun k => by rw [date_Internal.j1]) ?_
    rw [two_f d (by omega)]
    refine bs ?_
    by_cases h10 : d < 10
    · refine yes (by omega) ?_
      refine bnd (digit_1 d d4 h10) ?_
      refine yes (by rw [strOfNums_size, List.length_cons, List.length_nil]; decide) ?_
      have e : (⟨#[32]⟩ : ByteArray) ++ strOfNums [48 + (d : Int)] = strOfNums (dL d) := by
        rw [show (⟨#[32]⟩ : ByteArray) = strOfNums [32] from rfl, str_append]
        unfold dL
        rw [if_pos h10]
        rfl
      rw [e]
      exact hj
    · refine no (by omega) ?_
      have e : tw d = dL d := by unfold dL; rw [if_neg h10]
      rw [e]
      exact hj
  by_cases hz : zone < 0
  · refine yes hz ?_
    rw [decide_eq_true hz]
    have e3 : wrap64 (-zone) = (zone.natAbs : Int) := by rw [w64 (by omega) (by omega)]; omega
    rw [e3, show (⟨#[45]⟩ : ByteArray) = strOfNums [sg true] from rfl]
    exact hJ true zone.natAbs (by omega)
  · refine no hz ?_
    rw [decide_eq_false hz]
    have e3 : zone = (zone.natAbs : Int) := by omega
    rw [show (⟨#[43]⟩ : ByteArray) = strOfNums [sg false] from rfl]
    have := hJ false zone.natAbs (by omega)
    rw [← e3] at this
    exact this
end Go.Proofs.YtmbiggcapakjjaaDoor.Int
