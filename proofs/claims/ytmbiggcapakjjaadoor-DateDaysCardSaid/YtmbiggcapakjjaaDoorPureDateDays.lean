/- Each day's text leads to its number, and the day behind it is one more: the law in plain words, proved. -/
import Derived.Test.YtmbiggcapakjjaaDoorDay
import Derived.Test.YtmbiggcapakjjaaDoorPx11
set_option linter.unusedVariables false
set_option linter.unusedSimpArgs false
namespace Go.Proofs.YtmbiggcapakjjaaDoor.Pure
open Go.RowKit Go.Proofs.YtmbiggcapakjjaaDoor.P Go.Proofs.YtmbiggcapakjjaaDoorW.PrintWords Go.Proofs.YtmbiggcapakjjaaDoorW.PrintLast Go.Proofs.YtmbiggcapakjjaaDoor.Aids Go.Proofs.YtmbiggcapakjjaaDoor.Chars Go.Proofs.YtmbiggcapakjjaaDoor.Cal Go.Proofs.YtmbiggcapakjjaaDoor.Txt Go.Proofs.YtmbiggcapakjjaaDoor.Int
theorem day_f (sec zone : Int) (h1 : -1099511627776 ≤ sec ∧ sec ≤ 4611686018427 * 1000) (h2 : -1440 < zone ∧ zone < 1440) : date_Day.f sec zone = some ((sec + 60 * zone) / 86400) := by
  unfold date_Day.f
  have e1 : wrap64 (sec + wrap64 (zone * 60)) = sec + 60 * zone := by
    rw [w64 (x := zone * 60) (by omega) (by omega), w64 (by omega) (by omega)]; omega
  rw [e1, floor_f _ (by omega)]
  rfl
theorem cut_ok (y m d s z : Nat) (neg : Bool) (hy : y ≤ 9999) (hm : m < 12) (hd : d ≤ 31) : dd_cut (strOfNums (iT y m d s neg z)) = strOfNums (dayT y m d) := by
  have hlen : (dL d ++ 45 :: (moL m ++ 45 :: (tw (y / 100) ++ tw (y % 100)))).length = 11 := by
    simp only [List.length_cons, List.length_append, dL_len, (mo_is m hm).2.1, tw_len]
  have hbD : byte (dL d ++ 45 :: (moL m ++ 45 :: (tw (y / 100) ++ tw (y % 100)))) := byte_append (dL_byte d (by omega)) (byte_cons (by omega) (byte_append (mo_byte m hm) (byte_cons (by omega) (byte_append (tw_byte _ (by omega)) (tw_byte _ (by omega))))))
  unfold dd_cut
  rw [str_extract, iT_day _ _ _ _ _ _ hm, strOfNums_size, hlen, str_bt _ hbD]
  by_cases h10 : d < 10
  · have eD : dL d ++ 45 :: (moL m ++ 45 :: (tw (y / 100) ++ tw (y % 100))) = 32 :: dayT y m d := by
      unfold dL dayT dS
      rw [if_pos h10, if_pos h10]
      rfl
    rw [eD] at hlen ⊢
    have h32 : rd (32 :: dayT y m d) 0 = 32 := rfl
    rw [if_pos h32, str_extract, ← hlen, List.take_length]
    rfl
  · have eD : dL d ++ 45 :: (moL m ++ 45 :: (tw (y / 100) ++ tw (y % 100))) = dayT y m d := by
      unfold dL dayT dS
      rw [if_neg h10, if_neg h10]
    have h32 : rd (dL d ++ 45 :: (moL m ++ 45 :: (tw (y / 100) ++ tw (y % 100)))) 0 ≠ 32 := by
      unfold dL
      rw [if_neg h10]
      show 48 + ((d / 10 : Nat) : Int) ≠ 32
      omega
    rw [if_neg h32, eD]
theorem DateDays : letterboxlaw11_DateDays.Pure := by
  intro a0 h0
  have hn : 0 ≤ a0 ∧ a0 < 4294967296 := by
    have := wf_u32 h0
    omega
  obtain ⟨k, hk⟩ : ∃ k : Nat, a0 % 2900000 = (k : Int) := ⟨(a0 % 2900000).toNat, by omega⟩
  have hk1 : k < 2900000 := by omega
  obtain ⟨y, m, d, hd, hI⟩ := int_ok (86400 * (k : Int)) 0 (by omega) (by decide) (by omega)
  have hdiv : ((86400 * (k : Int) + 60 * 0) / 86400 + 719162).toNat = k + 719162 := by omega
  rw [hdiv] at hd
  have d3 := hd.2.2.1
  have d4 := hd.2.2.2.1
  have d5 := hd.2.2.2.2.1
  have hml := ml_pos y m
  have hy := hd.2.1
  generalize ((86400 * (k : Int) + 60 * 0) % 86400).toNat = s at hI
  have hp := pday hd
  have hq := pday_q hd
  have hkk : (((k + 719162 : Nat) : Int) - 719162) = (k : Int) := by omega
  rw [hkk] at hp hq
  obtain ⟨K1, H1⟩ := hI
  obtain ⟨K2, H2⟩ := hp
  obtain ⟨K3, H3⟩ := hq
  refine ⟨K1 + K2 + K3, ?_⟩
  have H1' := H1 (K1 + K2 + K3) (by omega)
  dsimp only at H1'
  have hc := cut_ok y m d s (0 : Int).natAbs (decide ((0 : Int) < 0)) hy d3 (by omega)
  unfold letterboxlaw11_DateDays.f
  rw [hk, H1', Option.bind_some, if_pos ?_]
  refine ⟨hn.1, hn.2, by rw [strOfNums_size, iT_len _ _ _ _ _ _ d3], ?_, ?_, ?_, ?_, ?_⟩
  · rw [day_f _ _ (by omega) (by decide)]
    exact congrArg some (by omega)
  · rw [day_f _ _ (by omega) (by decide)]
    exact congrArg some (by omega)
  · rw [day_f _ _ (by omega) (by decide)]
    exact congrArg some (by omega)
  · rw [hc]
    exact H2 _ (by omega)
  · rw [hc, show (⟨#[34]⟩ : ByteArray) = strOfNums [34] from rfl, str_append, str_append]
    exact H3 _ (by omega)
end Go.Proofs.YtmbiggcapakjjaaDoor.Pure
