/- A moment's text is read as the moment: in plain words. -/
import Derived.Test.YtmbiggcapakjjaaDoorInt
import Derived.Test.YtmbiggcapakjjaaDoorPx6
set_option linter.unusedVariables false
set_option linter.unusedSimpArgs false
namespace Go.Proofs.YtmbiggcapakjjaaDoor.Int
open Go.RowKit Go.Proofs.YtmbiggcapakjjaaDoor.P Go.Proofs.YtmbiggcapakjjaaDoorW.PrintWords Go.Proofs.YtmbiggcapakjjaaDoorW.PrintLast Go.Proofs.YtmbiggcapakjjaaDoor.Aids Go.Proofs.YtmbiggcapakjjaaDoor.Chars Go.Proofs.YtmbiggcapakjjaaDoor.Cal Go.Proofs.YtmbiggcapakjjaaDoor.Txt
theorem clock_l1 (L : List ByteArray) (many : List Int) (n : Int) : ∀ (c i : Nat), many.length - i ≤ c → i ≤ many.length → many.length ≤ 10 → Ev (fun k => date_clock.l1 k L n many (many.length : Int) (i : Int)) (if (L.length : Int) ∈ many.drop i then n else -1) := by
  intro c
  induction c with
  | zero =>
    intro i h1 h2 h3
    rw [List.drop_eq_nil_of_le (by omega), if_neg (by simp)]
    refine st (fun k => by rw [date_clock.l1]) ?_
    exact no (by omega) (fin rfl)
  | succ c ih =>
    intro i h1 h2 h3
    rcases Nat.lt_or_ge i many.length with h | h
    · refine st (fun k => by rw [date_clock.l1]) ?_
      refine yes (by omega) (yes (by omega) (yes (by omega) ?_))
      rw [drop_rd many i h]
      by_cases hs : (L.length : Int) = rd many (i : Int)
      · rw [if_pos (by rw [hs]; exact List.mem_cons_self)]
        exact yes hs (fin rfl)
      · refine no hs ?_
        have e1 : wrap64 ((i : Int) + 1) = ((i + 1 : Nat) : Int) := by rw [w64 (by omega) (by omega)]; omega
        rw [e1]
        refine toE (ih (i + 1) (by omega) h h3) ?_
        simp only [List.mem_cons, hs, false_or]
    · rw [List.drop_eq_nil_of_le h, if_neg (by simp)]
      refine st (fun k => by rw [date_clock.l1]) ?_
      exact no (by omega) (fin rfl)
theorem tw_no58 (n : Nat) (h : n ≤ 99) : ∀ c ∈ tw n, c ≠ 58 := by
  intro c hc
  unfold tw at hc
  simp only [List.mem_cons, List.not_mem_nil, or_false] at hc
  rcases hc with rfl | rfl <;> omega
def clkT (s : Nat) : List Int := tw (s / 3600) ++ 58 :: (tw (s / 60 % 60) ++ 58 :: tw (s % 60))
theorem clkT_byte (s : Nat) (hs : s < 86400) : byte (clkT s) := byte_append (tw_byte _ (by omega)) (byte_cons (by omega) (byte_append (tw_byte _ (by omega)) (byte_cons (by omega) (tw_byte _ (by omega)))))
theorem clock_ok (s : Nat) (hs : s < 86400) (x1 : Int) (h1 : 59 ≤ x1 ∧ x1 ≤ 60) (many : List Int) (hm : many.length ≤ 10) (h3 : (3 : Int) ∈ many) : Ev (fun k => date_clock.f k (strOfNums (clkT s)) x1 many) (s : Int) := by
  have hb := clkT_byte s hs
  have hsp := Chars.split (strOfNums (clkT s)) 58 (by rw [strOfNums_size]; simp [clkT, tw])
  rw [bytes_str _ hb] at hsp
  have hL : splitL 58 (clkT s) [] = [tw (s / 3600), tw (s / 60 % 60), tw (s % 60)] := by
    unfold clkT
    rw [splitL_at 58 _ _ [] (tw_no58 _ (by omega)), splitL_at 58 _ _ [] (tw_no58 _ (by omega)), splitL_no 58 _ [] (tw_no58 _ (by omega))]
    rfl
  rw [hL] at hsp
  have r0 : rdOf ByteArray.empty (Chars.strs [tw (s / 3600), tw (s / 60 % 60), tw (s % 60)]) 0 = strOfNums (tw (s / 3600)) := rfl
  have r1 : rdOf ByteArray.empty (Chars.strs [tw (s / 3600), tw (s / 60 % 60), tw (s % 60)]) 1 = strOfNums (tw (s / 60 % 60)) := rfl
  have r2 : rdOf ByteArray.empty (Chars.strs [tw (s / 3600), tw (s / 60 % 60), tw (s % 60)]) 2 = strOfNums (tw (s % 60)) := rfl
  have hlen : ((Chars.strs [tw (s / 3600), tw (s / 60 % 60), tw (s % 60)]).length : Int) = 3 := rfl
  have a0 : ar3_ 23 59 x1 0 = 23 ∧ ar3_ 23 59 x1 1 = 59 ∧ ar3_ 23 59 x1 2 = x1 := ⟨rfl, rfl, rfl⟩
  have b0 : ar3_ 3600 60 1 0 = 3600 ∧ ar3_ 3600 60 1 1 = 60 ∧ ar3_ 3600 60 1 2 = 1 := ⟨rfl, rfl, rfl⟩
  have w0 : Aside0 (wrap64 ((0 : Int) + 1) = 1) := ⟨by rw [w64 (by decide) (by decide)]; rfl⟩
  have w1 : Aside0 (wrap64 ((1 : Int) + 1) = 2) := ⟨by rw [w64 (by decide) (by decide)]; rfl⟩
  have w2 : Aside0 (wrap64 ((2 : Int) + 1) = 3) := ⟨by rw [w64 (by decide) (by decide)]; rfl⟩
  have c0 : Aside0 (wrap64 (0 + wrap64 (((s / 3600 : Nat) : Int) * 3600)) = ((s / 3600 * 3600 : Nat) : Int)) := ⟨by rw [w64 (x := ((s / 3600 : Nat) : Int) * 3600) (by omega) (by omega), w64 (by omega) (by omega)]; omega⟩
  have c1 : Aside0 (wrap64 (((s / 3600 * 3600 : Nat) : Int) + wrap64 (((s / 60 % 60 : Nat) : Int) * 60)) = ((s / 3600 * 3600 + s / 60 % 60 * 60 : Nat) : Int)) := ⟨by rw [w64 (x := ((s / 60 % 60 : Nat) : Int) * 60) (by omega) (by omega), w64 (by omega) (by omega)]; omega⟩
  have c2 : Aside0 (wrap64 (((s / 3600 * 3600 + s / 60 % 60 * 60 : Nat) : Int) + wrap64 (((s % 60 : Nat) : Int) * 1)) = (s : Int)) := ⟨by rw [w64 (x := ((s % 60 : Nat) : Int) * 1) (by omega) (by omega), w64 (by omega) (by omega)]; omega⟩
  unfold date_clock.f
  refine bnd hsp ?_
  rw [hlen]
  refine st (fun k => by rw [date_clock.l0]) ?_
  rw [r0, a0.1, b0.1, w0.out, hlen]
  refine yes (by decide) (yes (by decide) (yes (by decide) ?_))
  refine bnd (tw_digits _ (by omega) [2] (by decide) (by decide) (by decide)) ?_
  refine no (by decide) (no (by omega) (yes (by decide) (no (by omega) ?_)))
  rw [c0.out]
  refine st (fun k => by rw [date_clock.l0]) ?_
  rw [r1, a0.2.1, b0.2.1, w1.out, hlen]
  refine yes (by decide) (yes (by decide) (yes (by decide) ?_))
  refine bnd (tw_digits _ (by omega) [2] (by decide) (by decide) (by decide)) ?_
  refine no (by decide) (no (by omega) (yes (by decide) (no (by omega) ?_)))
  rw [c1.out]
  refine st (fun k => by rw [date_clock.l0]) ?_
  rw [r2, a0.2.2, b0.2.2, w2.out, hlen]
  refine yes (by decide) (yes (by decide) (yes (by decide) ?_))
  refine bnd (tw_digits _ (by omega) [2] (by decide) (by decide) (by decide)) ?_
  refine no (by decide) (no (by omega) (yes (by decide) (no (by omega) ?_)))
  rw [c2.out]
  refine st (fun k => by rw [date_clock.l0]) ?_
  refine no (by decide) ?_
  refine toE (clock_l1 _ many (s : Int) many.length 0 (by omega) (by omega) hm) ?_
  rw [List.drop_zero, hlen, if_pos h3]
theorem offset_ok (z : Nat) (neg : Bool) (hz : z < 1440) : Ev (fun k => date_offset.f k (strOfNums (sg neg :: (tw (z / 60) ++ tw (z % 60))))) ((if neg = true then -(z : Int) else (z : Int)), true) := by
  obtain ⟨l, hl⟩ : ∃ l, l = sg neg :: (tw (z / 60) ++ tw (z % 60)) := ⟨_, rfl⟩
  have hsg : 0 ≤ sg neg ∧ sg neg ≤ 255 := by unfold sg; split <;> decide
  have hb : byte l := by
    rw [hl]
    exact byte_cons hsg (byte_append (tw_byte _ (by omega)) (tw_byte _ (by omega)))
  have hlen : l.length = 5 := by rw [hl]; rfl
  have hx1 : (l.take 3).drop 1 = tw (z / 60) := by rw [hl]; rfl
  have hx2 : (l.take l.length).drop 3 = tw (z % 60) := by rw [List.take_length, hl]; rfl
  have h0 : rd l 0 = sg neg := by rw [hl]; rfl
  rw [← hl]
  unfold date_offset.f
  rw [strOfNums_size, hlen, str_bt _ hb, h0]
  refine yes rfl (yes (by decide) ?_)
  have hJ : Ev (fun k => date_offset.j0 k (strOfNums l) false) ((if neg = true then -(z : Int) else (z : Int)), true) := by
    refine st (fun k => by rw [date_offset.j0]) ?_
    rw [strOfNums_size, str_extract, str_extract, hx1, hx2, hlen]
    refine no (by decide) (yes (by decide) (yes (by decide) ?_))
    refine bnd (tw_digits _ (by omega) [2] (by decide) (by decide) (by decide)) ?_
    refine bnd (tw_digits _ (by omega) [2] (by decide) (by decide) (by decide)) ?_
    refine no (by omega) (no (by omega) (no (by omega) ?_))
    rw [decide_eq_false (by omega)]
    refine st (fun k => by rw [date_offset.j1]) ?_
    rw [strOfNums_size, hlen, str_bt _ hb, h0]
    refine no (by decide) (yes (by decide) ?_)
    cases neg with
    | true =>
      refine yes rfl (fin ?_)
      rw [if_pos rfl, w64 (x := (-60) * ((z / 60 : Nat) : Int)) (by omega) (by omega), w64 (by omega) (by omega)]
      congr 1
      omega
    | false =>
      refine no (by decide) (fin ?_)
      rw [if_neg (by decide), w64 (x := 60 * ((z / 60 : Nat) : Int)) (by omega) (by omega), w64 (by omega) (by omega)]
      congr 1
      omega
  cases neg with
  | true => exact no (by decide) hJ
  | false => exact yes rfl hJ
theorem moL_3 (m : Nat) (hm : m < 12) : ∃ b0 b1 b2, moL m = [b0, b1, b2] := by
  have := (mo_is m hm).2.1
  match h : moL m, this with
  | [a, b, c], _ => exact ⟨a, b, c, rfl⟩
theorem iT_byte (y m d s z : Nat) (neg : Bool) (hy : y ≤ 9999) (hm : m < 12) (hd : d ≤ 31) (hs : s < 86400) (hz : z < 1440) : byte (iT y m d s neg z) := by
  have hsg : 0 ≤ sg neg ∧ sg neg ≤ 255 := by unfold sg; split <;> decide
  unfold iT
  exact byte_cons (by omega) (byte_append (dL_byte d hd) (byte_cons (by omega) (byte_append (mo_byte m hm) (byte_cons (by omega) (byte_append (byte_append (tw_byte _ (by omega)) (tw_byte _ (by omega))) (byte_cons (by omega) (byte_append (tw_byte _ (by omega)) (byte_cons (by omega) (byte_append (tw_byte _ (by omega)) (byte_cons (by omega) (byte_append (tw_byte _ (by omega)) (byte_cons (by omega) (byte_cons hsg (byte_append (byte_append (tw_byte _ (by omega)) (tw_byte _ (by omega))) (byte_one (by omega) (by omega))))))))))))))))
theorem iT_len' (y m d s z : Nat) (neg : Bool) (hm : m < 12) : (iT y m d s neg z).length = 28 := by
  unfold iT
  simp only [List.length_cons, List.length_append, dL_len, (mo_is m hm).2.1, tw_len, List.length_nil]
theorem iT_reads (y m d s z : Nat) (neg : Bool) (hm : m < 12) :
    rd (iT y m d s neg z) 0 = 34 ∧ rd (iT y m d s neg z) 27 = 34 ∧ rd (iT y m d s neg z) 3 = 45 ∧ rd (iT y m d s neg z) 7 = 45 ∧ rd (iT y m d s neg z) 12 = 32 ∧ rd (iT y m d s neg z) 21 = 32 ∧ rd (iT y m d s neg z) 1 = rd (dL d) 0 ∧
    ((iT y m d s neg z).take 3).drop 1 = dL d ∧ ((iT y m d s neg z).take 3).drop 2 = (dL d).drop 1 ∧ ((iT y m d s neg z).take 7).drop 4 = moL m ∧ ((iT y m d s neg z).take 12).drop 8 = tw (y / 100) ++ tw (y % 100) ∧
    ((iT y m d s neg z).take 21).drop 13 = clkT s ∧ ((iT y m d s neg z).take 27).drop 22 = sg neg :: (tw (z / 60) ++ tw (z % 60)) := by
  obtain ⟨b0, b1, b2, hb⟩ := moL_3 m hm
  obtain ⟨a0, a1, ha⟩ : ∃ a0 a1, dL d = [a0, a1] := by
    unfold dL
    split
    · exact ⟨_, _, rfl⟩
    · exact ⟨_, _, rfl⟩
  unfold iT clkT
  rw [hb, ha]
  exact ⟨rfl, rfl, rfl, rfl, rfl, rfl, rfl, rfl, rfl, rfl, rfl, rfl, rfl⟩
/-- the day's number out of a moment's text -/
theorem day_read (d : Nat) (h1 : 1 ≤ d) (h : d ≤ 31) : ∃ v, Ev (fun k => date_digits.f k (strOfNums (dL d)) [2]) v ∧ ((rd (dL d) 0 = 32 ∧ Ev (fun k => date_digits.f k (strOfNums ((dL d).drop 1)) [1]) (d : Int)) ∨ (rd (dL d) 0 ≠ 32 ∧ v = (d : Int))) := by
  by_cases h10 : d < 10
  · have e : dL d = [32, 48 + (d : Int)] := if_pos h10
    rw [e]
    refine ⟨_, digits_ok (byte_cons (by omega) (byte_one (by omega) (by omega))) (by simp) [2] (by decide) (by decide), .inl ⟨rfl, ?_⟩⟩
    exact one_digits d (by omega) [1] (by decide) (by decide) (by decide)
  · have e : dL d = tw d := if_neg h10
    rw [e]
    refine ⟨_, tw_digits d (by omega) [2] (by decide) (by decide) (by decide), .inr ⟨?_, rfl⟩⟩
    show 48 + ((d / 10 : Nat) : Int) ≠ 32
    omega
theorem pint_ok {N y m d : Nat} (h : isDay N y m d) (s z : Nat) (neg : Bool) (hs : s < 86400) (hz : z < 1440) :
    Ev (fun k => date_ParseInternal.f k (strOfNums (iT y m d s neg z))) (((N : Int) - 719162) * 86400 + (s : Int) - 60 * (if neg = true then -(z : Int) else (z : Int)), (if neg = true then -(z : Int) else (z : Int)), true) := by
  have hN := number_of h
  have hlt := day_lt h
  obtain ⟨d1, d2, d3, d4, d5, d6⟩ := h
  have hml := ml_pos y m
  have hb := iT_byte y m d s z neg d2 d3 (by omega) hs hz
  have hlen := iT_len' y m d s z neg d3
  obtain ⟨r0, r27, r3, r7, r12, r21, r1, x1, x2, x4, x8, x13, x22⟩ := iT_reads y m d s z neg d3
  obtain ⟨v, hv, hv2⟩ := day_read d d4 (by omega)
  have hclk := clock_ok s hs 59 (by decide) [3] (by decide) (by decide)
  have hoff := offset_ok z neg hz
  generalize iT y m d s neg z = l at *
  generalize hzz : (if neg = true then -(z : Int) else (z : Int)) = zz at *
  have hzb : -1440 < zz ∧ zz < 1440 := by rw [← hzz]; split <;> omega
  have hJ1 : Ev (fun k => date_ParseInternal.j1 k (strOfNums l) (d : Int)) (((N : Int) - 719162) * 86400 + (s : Int) - 60 * zz, zz, true) := by
    refine st (fun k => by rw [date_ParseInternal.j1]) ?_
    rw [strOfNums_size, hlen, str_extract, str_extract, str_extract, str_extract, x4, x8, x13, x22, (mo_is m d3).2.2.2]
    refine yes (by decide) (yes (by decide) (bs ?_))
    refine yes (by decide) (yes (by decide) ?_)
    refine bnd (four_digits y d2 [4] (by decide) (by decide) (by decide)) ?_
    refine yes (by decide) (yes (by decide) ?_)
    refine bnd hclk ?_
    refine yes (by decide) (yes (by decide) ?_)
    refine bnd hoff ?_
    refine no (by omega) (no (by omega) ?_)
    refine st (fun k => by rw [date_ParseInternal.j2]) ?_
    refine no (by simp) ?_
    refine bnd hN ?_
    refine yes rfl ?_
    unfold date_moment.f
    refine bs (fin ?_)
    dsimp only
    rw [w64 (x := ((N : Int) - 719162) * 86400) (by omega) (by omega), w64 (x := ((N : Int) - 719162) * 86400 + (s : Int)) (by omega) (by omega), w64 (x := zz * 60) (by omega) (by omega), w64 (by omega) (by omega), Int.mul_comm zz 60]
  have hJ0 : Ev (fun k => date_ParseInternal.j0 k (strOfNums l) false) (((N : Int) - 719162) * 86400 + (s : Int) - 60 * zz, zz, true) := by
    refine st (fun k => by rw [date_ParseInternal.j0]) ?_
    rw [strOfNums_size, hlen, str_bt _ hb, str_extract, str_extract, x1, x2, r1]
    refine no (by decide) (yes (by decide) (yes (by decide) ?_))
    refine bnd hv ?_
    refine yes (by decide) ?_
    rcases hv2 with ⟨h32, hd⟩ | ⟨h32, rfl⟩
    · refine yes h32 (yes (by decide) ?_)
      refine bnd hd ?_
      exact hJ1
    · exact no h32 hJ1
  unfold date_ParseInternal.f
  rw [strOfNums_size, hlen, str_bt _ hb, str_bt _ hb, str_bt _ hb, str_bt _ hb, str_bt _ hb, str_bt _ hb, r0, r27, r3, r7, r12, r21]
  refine yes rfl (yes (by decide) (yes rfl (yes (by decide) (yes rfl (yes (by decide) (yes rfl (yes (by decide) (yes rfl (yes (by decide) (yes rfl (yes (by decide) ?_)))))))))))
  exact hJ0
end Go.Proofs.YtmbiggcapakjjaaDoor.Int
