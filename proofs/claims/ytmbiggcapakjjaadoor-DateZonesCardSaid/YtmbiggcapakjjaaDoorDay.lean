/- A day's text is read as the day: in plain words. -/
import Derived.Test.YtmbiggcapakjjaaDoorInt
set_option linter.unusedVariables false
set_option linter.unusedSimpArgs false
namespace Go.Proofs.YtmbiggcapakjjaaDoor.Int
open Go.RowKit Go.Proofs.YtmbiggcapakjjaaDoor.P Go.Proofs.YtmbiggcapakjjaaDoorW.PrintWords Go.Proofs.YtmbiggcapakjjaaDoorW.PrintLast Go.Proofs.YtmbiggcapakjjaaDoor.Aids Go.Proofs.YtmbiggcapakjjaaDoor.Chars Go.Proofs.YtmbiggcapakjjaaDoor.Cal Go.Proofs.YtmbiggcapakjjaaDoor.Txt
def dS (d : Nat) : List Int := if d < 10 then [48 + (d : Int)] else tw d
def dayT (y m d : Nat) : List Int := dS d ++ 45 :: (moL m ++ 45 :: (tw (y / 100) ++ tw (y % 100)))
theorem tw_no (n : Nat) (h : n ≤ 99) : ∀ c ∈ tw n, c ≠ 45 := by
  intro c hc
  unfold tw at hc
  simp only [List.mem_cons, List.not_mem_nil, or_false] at hc
  rcases hc with rfl | rfl <;> omega
theorem dS_no (d : Nat) (h : d ≤ 31) : ∀ c ∈ dS d, c ≠ 45 := by
  unfold dS
  split
  · intro c hc
    rw [List.mem_singleton.1 hc]
    omega
  · exact tw_no d (by omega)
theorem dS_byte (d : Nat) (h : d ≤ 31) : byte (dS d) := by
  unfold dS
  split
  · exact byte_one (by omega) (by omega)
  · exact tw_byte d (by omega)
theorem dS_len (d : Nat) : 1 ≤ (dS d).length ∧ (dS d).length ≤ 2 := by
  unfold dS
  split <;> simp [tw]
theorem dS_digits (d : Nat) (h : d ≤ 31) : Ev (fun k => date_digits.f k (strOfNums (dS d)) [1, 2]) (d : Int) := by
  unfold dS
  by_cases h10 : d < 10
  · rw [if_pos h10]
    exact one_digits d (by omega) [1, 2] (by decide) (by decide) (by decide)
  · rw [if_neg h10]
    exact tw_digits d (by omega) [1, 2] (by decide) (by decide) (by decide)
theorem dayT_byte (y m d : Nat) (hy : y ≤ 9999) (hm : m < 12) (hd : d ≤ 31) : byte (dayT y m d) :=
  byte_append (dS_byte d hd) (byte_cons (by omega) (byte_append (mo_byte m hm) (byte_cons (by omega) (byte_append (tw_byte _ (by omega)) (tw_byte _ (by omega))))))
theorem dayT_len (y m d : Nat) (hm : m < 12) : (dayT y m d).length = (dS d).length + 9 := by
  unfold dayT
  simp only [List.length_append, List.length_cons, (mo_is m hm).2.1, tw_len]
theorem dayT_split (y m d : Nat) (hy : y ≤ 9999) (hm : m < 12) (hd : d ≤ 31) : splitL 45 (dayT y m d) [] = [dS d, moL m, tw (y / 100) ++ tw (y % 100)] := by
  have h2 : ∀ c ∈ moL m, c ≠ 45 := fun c hc => by have := (mo_is m hm).2.2.1 c hc; omega
  have h3 : ∀ c ∈ tw (y / 100) ++ tw (y % 100), c ≠ 45 := fun c hc => (List.mem_append.1 hc).elim (tw_no _ (by omega) c) (tw_no _ (by omega) c)
  unfold dayT
  rw [splitL_at 45 _ _ [] (dS_no d hd), splitL_at 45 _ _ [] h2, splitL_no 45 _ [] h3]
  rfl
theorem pday_j1 {N y m d : Nat} (h : isDay N y m d) : Ev (fun k => date_ParseDay.j1 k (strOfNums (dayT y m d))) ((N : Int) - 719162, true) := by
  have hN := number_of h
  obtain ⟨d1, d2, d3, d4, d5, d6⟩ := h
  have hml := ml_pos y m
  have hl := dayT_len y m d d3
  have hdl := dS_len d
  refine st (fun k => by rw [date_ParseDay.j1]) ?_
  rw [ssplit_f _ (dayT_byte y m d d2 d3 (by omega)) (by omega), dayT_split y m d d2 d3 (by omega)]
  refine bs ?_
  have hL3 : ((Chars.strs [dS d, moL m, tw (y / 100) ++ tw (y % 100)]).length : Int) = 3 := rfl
  have r1 : rdOf ByteArray.empty (Chars.strs [dS d, moL m, tw (y / 100) ++ tw (y % 100)]) 1 = strOfNums (moL m) := rfl
  have r2 : rdOf ByteArray.empty (Chars.strs [dS d, moL m, tw (y / 100) ++ tw (y % 100)]) 2 = strOfNums (tw (y / 100) ++ tw (y % 100)) := rfl
  have r0 : rdOf ByteArray.empty (Chars.strs [dS d, moL m, tw (y / 100) ++ tw (y % 100)]) 0 = strOfNums (dS d) := rfl
  rw [hL3, r1, r2, r0, (mo_is m d3).2.2.2]
  refine yes rfl ?_
  refine yes (by decide) ?_
  refine bs ?_
  refine no (by omega) ?_
  refine yes (by decide) ?_
  refine bnd (four_digits y d2 [4] (by decide) (by decide) (by decide)) ?_
  refine yes (by decide) ?_
  refine bnd (dS_digits d (by omega)) ?_
  refine bnd hN ?_
  exact fin rfl
theorem pday {N y m d : Nat} (h : isDay N y m d) : Ev (fun k => date_ParseDay.f k (strOfNums (dayT y m d))) ((N : Int) - 719162, true) := by
  have hj := pday_j1 h
  obtain ⟨d1, d2, d3, d4, d5, d6⟩ := h
  have hml := ml_pos y m
  have hl := dayT_len y m d d3
  have hdl := dS_len d
  have hb := dayT_byte y m d d2 d3 (by omega)
  have h34 : bt (strOfNums (dayT y m d)) 0 ≠ 34 := by
    rw [str_bt _ hb]
    unfold dayT dS
    split
    · show 48 + (d : Int) ≠ 34
      omega
    · show 48 + ((d / 10 : Nat) : Int) ≠ 34
      omega
  unfold date_ParseDay.f
  rw [strOfNums_size]
  refine yes (by omega) ?_
  refine yes (by omega) ?_
  refine no h34 ?_
  refine st (fun k => by rw [date_ParseDay.j0]) ?_
  exact no (by decide) hj
theorem pday_q {N y m d : Nat} (h : isDay N y m d) : Ev (fun k => date_ParseDay.f k (strOfNums (34 :: (dayT y m d ++ [34])))) ((N : Int) - 719162, true) := by
  have hj := pday_j1 h
  obtain ⟨d1, d2, d3, d4, d5, d6⟩ := h
  have hml := ml_pos y m
  have hl := dayT_len y m d d3
  have hdl := dS_len d
  have hb := dayT_byte y m d d2 d3 (by omega)
  have hbq : byte (34 :: (dayT y m d ++ [34])) := byte_cons (by omega) (byte_append hb (byte_one (by omega) (by omega)))
  have hlq : (34 :: (dayT y m d ++ [34])).length = (dayT y m d).length + 2 := by simp
  have e1 : wrap64 (((34 :: (dayT y m d ++ [34])).length : Int) - 1) = (((dayT y m d).length + 1 : Nat) : Int) := by rw [hlq, w64 (by omega) (by omega)]; omega
  have hlast : bt (strOfNums (34 :: (dayT y m d ++ [34]))) (((dayT y m d).length + 1 : Nat) : Int) = 34 := by
    rw [str_bt _ hbq]
    have := rd_last (34 :: dayT y m d) 34
    rw [List.length_cons] at this
    exact this
  unfold date_ParseDay.f
  rw [strOfNums_size, e1, hlast]
  refine yes (by omega) ?_
  refine yes (by omega) ?_
  refine yes (by rw [str_bt _ hbq]; rfl) ?_
  refine yes (by omega) ?_
  refine yes (by omega) ?_
  refine st (fun k => by rw [date_ParseDay.j0]) ?_
  rw [strOfNums_size, e1]
  refine yes rfl ?_
  refine yes (by omega) ?_
  refine yes (by omega) ?_
  rw [Int.toNat_natCast, str_extract]
  have e2 : ((34 :: (dayT y m d ++ [34])).take ((dayT y m d).length + 1)).drop 1 = dayT y m d := by
    rw [List.take_succ_cons, List.drop_succ_cons, List.drop_zero, List.take_left']
    rfl
  rw [e2]
  exact hj
/-- the day within a moment's text -/
theorem iT_day (y m d s z : Nat) (neg : Bool) (hm : m < 12) : (((iT y m d s neg z).take 12).drop 1) = dL d ++ 45 :: (moL m ++ 45 :: (tw (y / 100) ++ tw (y % 100))) := by
  have e : iT y m d s neg z = (34 :: (dL d ++ 45 :: (moL m ++ 45 :: (tw (y / 100) ++ tw (y % 100))))) ++ (32 :: (tw (s / 3600) ++ 58 :: (tw (s / 60 % 60) ++ 58 :: (tw (s % 60) ++ 32 :: sg neg :: (tw (z / 60) ++ tw (z % 60) ++ [34])))))  := by
    unfold iT
    simp [List.append_assoc]
  rw [e, List.take_left']
  · rfl
  · simp only [List.length_cons, List.length_append, dL_len, (mo_is m hm).2.1, tw_len]
theorem iT_len (y m d s z : Nat) (neg : Bool) (hm : m < 12) : (iT y m d s neg z).length = 28 := by
  unfold iT
  simp only [List.length_cons, List.length_append, dL_len, (mo_is m hm).2.1, tw_len, List.length_nil]
end Go.Proofs.YtmbiggcapakjjaaDoor.Int
