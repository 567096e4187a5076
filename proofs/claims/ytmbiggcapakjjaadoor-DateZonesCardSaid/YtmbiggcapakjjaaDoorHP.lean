/- A header's text of a moment is read as the moment: in plain words. -/
import Derived.Test.YtmbiggcapakjjaaDoorParts
import Derived.Test.YtmbiggcapakjjaaDoorPI
import Derived.Test.YtmbiggcapakjjaaDoorDay
import Derived.Test.YtmbiggcapakjjaaDoorPx5
set_option linter.unusedVariables false
set_option linter.unusedSimpArgs false
namespace Go.Proofs.YtmbiggcapakjjaaDoor.Int
open Go.RowKit Go.Proofs.YtmbiggcapakjjaaDoor.P Go.Proofs.YtmbiggcapakjjaaDoorW.PrintWords Go.Proofs.YtmbiggcapakjjaaDoorW.PrintLast Go.Proofs.YtmbiggcapakjjaaDoor.Aids Go.Proofs.YtmbiggcapakjjaaDoor.Chars Go.Proofs.YtmbiggcapakjjaaDoor.Cal Go.Proofs.YtmbiggcapakjjaaDoor.Txt Go.Proofs.YtmbiggcapakjjaaDoor.Prt
def zT (neg : Bool) (z : Nat) : List Int := sg neg :: (tw (z / 60) ++ tw (z % 60))
def hT (y m d s : Nat) (neg : Bool) (z : Nat) : List Int := dS d ++ 32 :: (moL m ++ 32 :: (tw (y / 100) ++ tw (y % 100) ++ 32 :: (clkT s ++ 32 :: zT neg z)))
theorem tw_nb (n : Nat) (h : n ≤ 99) : ∀ c ∈ tw n, bl c = false ∧ c ≠ 40 := by
  intro c hc
  unfold tw at hc
  simp only [List.mem_cons, List.not_mem_nil, or_false] at hc
  unfold bl
  rcases hc with rfl | rfl <;> exact ⟨by rw [decide_eq_false (by omega), decide_eq_false (by omega)]; rfl, by omega⟩
theorem dS_nb (d : Nat) (h : d ≤ 31) : ∀ c ∈ dS d, bl c = false ∧ c ≠ 40 := by
  unfold dS
  split
  · intro c hc
    rw [List.mem_singleton.1 hc]
    unfold bl
    exact ⟨by rw [decide_eq_false (by omega), decide_eq_false (by omega)]; rfl, by omega⟩
  · exact tw_nb d (by omega)
theorem mo_nb (m : Nat) (h : m < 12) : ∀ c ∈ moL m, bl c = false ∧ c ≠ 40 := by
  intro c hc
  have := (mo_is m h).2.2.1 c hc
  unfold bl
  exact ⟨by rw [decide_eq_false (by omega), decide_eq_false (by omega)]; rfl, by omega⟩
theorem clk_nb (s : Nat) (h : s < 86400) : ∀ c ∈ clkT s, bl c = false ∧ c ≠ 40 := by
  intro c hc
  unfold clkT at hc
  simp only [List.mem_append, List.mem_cons] at hc
  rcases hc with hc | rfl | hc | rfl | hc
  · exact tw_nb _ (by omega) c hc
  · decide
  · exact tw_nb _ (by omega) c hc
  · decide
  · exact tw_nb _ (by omega) c hc
theorem z_nb (neg : Bool) (z : Nat) (h : z < 1440) : ∀ c ∈ zT neg z, bl c = false ∧ c ≠ 40 := by
  intro c hc
  unfold zT at hc
  simp only [List.mem_append, List.mem_cons] at hc
  rcases hc with rfl | hc | hc
  · unfold sg; split <;> decide
  · exact tw_nb _ (by omega) c hc
  · exact tw_nb _ (by omega) c hc
theorem zT_byte (neg : Bool) (z : Nat) (h : z < 1440) : byte (zT neg z) := by
  have hsg : 0 ≤ sg neg ∧ sg neg ≤ 255 := by unfold sg; split <;> decide
  exact byte_cons hsg (byte_append (tw_byte _ (by omega)) (tw_byte _ (by omega)))
theorem hT_byte (y m d s z : Nat) (neg : Bool) (hy : y ≤ 9999) (hm : m < 12) (hd : d ≤ 31) (hs : s < 86400) (hz : z < 1440) : byte (hT y m d s neg z) :=
  byte_append (dS_byte d hd) (byte_cons (by omega) (byte_append (mo_byte m hm) (byte_cons (by omega) (byte_append (byte_append (tw_byte _ (by omega)) (tw_byte _ (by omega))) (byte_cons (by omega) (byte_append (clkT_byte s hs) (byte_cons (by omega) (zT_byte neg z hz))))))))
theorem hT_len (y m d s z : Nat) (neg : Bool) (hm : m < 12) : (hT y m d s neg z).length ≤ 40 := by
  have := dS_len d
  unfold hT clkT zT
  simp only [List.length_append, List.length_cons, tw_len, (mo_is m hm).2.1]
  omega
theorem one_part (w t : List Int) (hw : ∀ c ∈ w, bl c = false) (hne : w ≠ []) : partsL (w ++ 32 :: t) [] = w :: partsL t [] := by
  rw [partsL_word w _ [] hw, List.nil_append, partsL, if_pos (by decide), if_neg hne]
theorem last_part (w : List Int) (hw : ∀ c ∈ w, bl c = false) (hne : w ≠ []) : partsL w [] = [w] := by
  have := partsL_word w [] [] hw
  rw [List.append_nil, List.nil_append] at this
  rw [this, partsL, if_neg hne]
theorem hT_parts (y m d s z : Nat) (neg : Bool) (hy : y ≤ 9999) (hm : m < 12) (hd : d ≤ 31) (hs : s < 86400) (hz : z < 1440) : partsL (hT y m d s neg z) [] = [dS d, moL m, tw (y / 100) ++ tw (y % 100), clkT s, zT neg z] := by
  have h1 : dS d ≠ [] := by intro e; have := dS_len d; rw [e] at this; simp at this
  have h2 : moL m ≠ [] := by intro e; have := (mo_is m hm).2.1; rw [e] at this; simp at this
  have h3 : tw (y / 100) ++ tw (y % 100) ≠ [] := by simp [tw]
  have h4 : clkT s ≠ [] := by simp [clkT, tw]
  have h5 : zT neg z ≠ [] := by simp [zT]
  unfold hT
  rw [one_part _ _ (fun c hc => (dS_nb d hd c hc).1) h1, one_part _ _ (fun c hc => (mo_nb m hm c hc).1) h2, one_part _ _ (fun c hc => (List.mem_append.1 hc).elim (fun hc => (tw_nb _ (by omega) c hc).1) (fun hc => (tw_nb _ (by omega) c hc).1)) h3, one_part _ _ (fun c hc => (clk_nb s hs c hc).1) h4, last_part _ (fun c hc => (z_nb neg z hz c hc).1) h5]
theorem zone_ok (z : Nat) (neg : Bool) (hz : z < 1440) : Ev (fun k => date_zone.f k (strOfNums (zT neg z))) ((if neg = true then -(z : Int) else (z : Int)), true) := by
  have hb := zT_byte neg z hz
  have h0 : rd (zT neg z) 0 = sg neg := rfl
  have hlen : (zT neg z).length = 5 := rfl
  unfold date_zone.f
  rw [strOfNums_size, hlen, str_bt _ hb, h0]
  refine yes (by decide) (yes ?_ ?_)
  · unfold sg; split
    · exact .inr rfl
    · exact .inl rfl
  · exact offset_ok z neg hz
theorem year_ok (y : Nat) (hy : y ≤ 9999) : Ev (fun k => date_year.f k (strOfNums (tw (y / 100) ++ tw (y % 100)))) (y : Int) := by
  unfold date_year.f
  refine bnd (four_digits y hy [2, 4] (by decide) (by decide) (by decide)) ?_
  rw [strOfNums_size]
  have hlen : (tw (y / 100) ++ tw (y % 100)).length = 4 := rfl
  rw [hlen]
  refine no (by decide) ?_
  refine st (fun k => by rw [date_year.j0]) ?_
  exact yes rfl (fin rfl)
theorem parse_ok {N y m d : Nat} (h : isDay N y m d) (s z : Nat) (neg : Bool) (hs : s < 86400) (hz : z < 1440) :
    Ev (fun k => date_Parse.f k (strOfNums (hT y m d s neg z))) (((N : Int) - 719162) * 86400 + (s : Int) - 60 * (if neg = true then -(z : Int) else (z : Int)), (if neg = true then -(z : Int) else (z : Int)), true) := by
  have hN := number_of h
  have hlt := day_lt h
  obtain ⟨d1, d2, d3, d4, d5, d6⟩ := h
  have hml := ml_pos y m
  have hb := hT_byte y m d s z neg d2 d3 (by omega) hs hz
  have hlen := hT_len y m d s z neg d3
  have hno : ∀ c ∈ hT y m d s neg z, c ≠ 40 := by
    intro c hc
    unfold hT at hc
    simp only [List.mem_append, List.mem_cons] at hc
    rcases hc with hc | rfl | hc | rfl | (hc | hc) | rfl | hc | rfl | hc
    · exact (dS_nb d (by omega) c hc).2
    · decide
    · exact (mo_nb m d3 c hc).2
    · decide
    · exact (tw_nb _ (by omega) c hc).2
    · exact (tw_nb _ (by omega) c hc).2
    · decide
    · exact (clk_nb s hs c hc).2
    · decide
    · exact (z_nb neg z hz c hc).2
  have hbare := bare_ok hb (by omega)
  rw [bareL_plain _ _ (by omega) hno] at hbare
  have hparts := parts_ok hb (by omega)
  rw [hT_parts y m d s z neg d2 d3 (by omega) hs hz] at hparts
  have hzo := zone_ok z neg hz
  have hclk := clock_ok s hs 60 (by decide) [2, 3] (by decide) (by decide)
  have hyr := year_ok y d2
  have hdd := dS_digits d (by omega)
  have hdl := dS_len d
  generalize hzz : (if neg = true then -(z : Int) else (z : Int)) = zz at *
  have hzb : -1440 < zz ∧ zz < 1440 := by rw [← hzz]; split <;> omega
  obtain ⟨L, hL⟩ : ∃ L, L = Chars.strs [dS d, moL m, tw (y / 100) ++ tw (y % 100), clkT s, zT neg z] := ⟨_, rfl⟩
  have l0 : rdOf ByteArray.empty L 0 = strOfNums (dS d) := by rw [hL]; rfl
  have l1 : rdOf ByteArray.empty L 1 = strOfNums (moL m) := by rw [hL]; rfl
  have l2 : rdOf ByteArray.empty L 2 = strOfNums (tw (y / 100) ++ tw (y % 100)) := by rw [hL]; rfl
  have l3 : rdOf ByteArray.empty L 3 = strOfNums (clkT s) := by rw [hL]; rfl
  have l4 : rdOf ByteArray.empty L 4 = strOfNums (zT neg z) := by rw [hL]; rfl
  have l5 : (L.length : Int) = 5 := by rw [hL]; rfl
  rw [← hL] at hparts
  unfold date_Parse.f
  refine bnd hbare (bnd hparts ?_)
  rw [l5, l0, strOfNums_size]
  refine yes (by decide) (yes (by decide) (no (by omega) ?_))
  refine st (fun k => by rw [date_Parse.j0]) ?_
  refine no (by decide) ?_
  refine st (fun k => by rw [date_Parse.j1]) ?_
  rw [l5]
  refine no (by decide) ?_
  rw [decide_eq_false (by decide)]
  refine st (fun k => by rw [date_Parse.j2]) ?_
  rw [l5, l1, l4, (mo_is m d3).2.2.2]
  refine no (by decide) (yes (by decide) (bs (yes rfl (yes (by decide) ?_))))
  refine bnd hzo ?_
  refine st (fun k => by rw [date_Parse.j3]) ?_
  rw [l5, l3]
  refine yes (by decide) (bnd hclk ?_)
  refine no (by omega) (yes rfl ?_)
  rw [decide_eq_false (by omega)]
  refine st (fun k => by rw [date_Parse.j4]) ?_
  rw [l5, l2, l0]
  refine no (by decide) (yes (by decide) (bnd hyr (yes (by decide) (bnd hdd (bnd hN (yes rfl ?_))))))
  unfold date_moment.f
  refine bs (fin ?_)
  dsimp only
  rw [w64 (x := ((N : Int) - 719162) * 86400) (by omega) (by omega), w64 (x := ((N : Int) - 719162) * 86400 + (s : Int)) (by omega) (by omega), w64 (x := zz * 60) (by omega) (by omega), w64 (by omega) (by omega), Int.mul_comm zz 60]
end Go.Proofs.YtmbiggcapakjjaaDoor.Int
