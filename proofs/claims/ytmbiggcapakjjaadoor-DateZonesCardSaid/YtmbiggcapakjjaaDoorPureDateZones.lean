/- A moment told in another zone is the same moment: the law in plain words, proved. -/
import Derived.Test.YtmbiggcapakjjaaDoorHP
import Derived.Test.YtmbiggcapakjjaaDoorPx10
set_option linter.unusedVariables false
set_option linter.unusedSimpArgs false
namespace Go.Proofs.YtmbiggcapakjjaaDoor.Pure
open Go.RowKit Go.Proofs.YtmbiggcapakjjaaDoor.P Go.Proofs.YtmbiggcapakjjaaDoorW.PrintWords Go.Proofs.YtmbiggcapakjjaaDoorW.PrintLast Go.Proofs.YtmbiggcapakjjaaDoor.Aids Go.Proofs.YtmbiggcapakjjaaDoor.Chars Go.Proofs.YtmbiggcapakjjaaDoor.Cal Go.Proofs.YtmbiggcapakjjaaDoor.Txt Go.Proofs.YtmbiggcapakjjaaDoor.Int
theorem front_ok (y m d s z : Nat) (neg : Bool) (hy : y ≤ 9999) (hm : m < 12) (hd : d ≤ 31) (hs : s < 86400) (hz : z < 1440) : dz_front (dz_cut (strOfNums (iT y m d s neg z))) = hT y m d s neg z := by
  obtain ⟨b0, b1, b2, hb⟩ := moL_3 m hm
  have hmb := (mo_is m hm).2.2.1
  rw [hb] at hmb
  have n0 : b0 ≠ 45 := by have := hmb b0 (by simp); omega
  have n1 : b1 ≠ 45 := by have := hmb b1 (by simp); omega
  have n2 : b2 ≠ 45 := by have := hmb b2 (by simp); omega
  unfold dz_cut
  rw [bytes_str _ (iT_byte y m d s z neg hy hm hd hs hz)]
  by_cases h10 : d < 10
  · have e1 : dL d = [32, 48 + (d : Int)] := if_pos h10
    have e2 : dS d = [48 + (d : Int)] := if_pos h10
    have nd : 48 + (d : Int) ≠ 45 := by omega
    have ny : 48 + ((y / 100 / 10 : Nat) : Int) ≠ 45 := by omega
    have eD : ((iT y m d s neg z).take 27).drop 1 = 32 :: (48 + (d : Int)) :: 45 :: b0 :: b1 :: b2 :: 45 :: (tw (y / 100) ++ tw (y % 100) ++ 32 :: (clkT s ++ 32 :: zT neg z)) := by
      unfold iT
      rw [hb, e1]
      rfl
    rw [eD]
    simp only [show ∀ t : List Int, rd (32 :: t) 0 = 32 from fun _ => rfl, if_true, List.drop_succ_cons, List.drop_zero]
    unfold dz_front hT
    rw [hb, e2]
    show (if 48 + (d : Int) = 45 then 32 else 48 + (d : Int)) :: (if (45 : Int) = 45 then 32 else 45) :: (if b0 = 45 then 32 else b0) :: (if b1 = 45 then 32 else b1) :: (if b2 = 45 then 32 else b2) :: (if (45 : Int) = 45 then 32 else 45) :: (if 48 + ((y / 100 / 10 : Nat) : Int) = 45 then 32 else 48 + ((y / 100 / 10 : Nat) : Int)) :: _ = _
    rw [if_neg nd, if_pos rfl, if_neg n0, if_neg n1, if_neg n2, if_neg ny]
    rfl
  · have e1 : dL d = tw d := if_neg h10
    have e2 : dS d = tw d := if_neg h10
    have nd : 48 + ((d / 10 : Nat) : Int) ≠ 45 := by omega
    have nd2 : 48 + ((d % 10 : Nat) : Int) ≠ 45 := by omega
    have h32 : ¬ 48 + ((d / 10 : Nat) : Int) = 32 := by omega
    have eD : ((iT y m d s neg z).take 27).drop 1 = (48 + ((d / 10 : Nat) : Int)) :: (48 + ((d % 10 : Nat) : Int)) :: 45 :: b0 :: b1 :: b2 :: 45 :: (tw (y / 100) ++ tw (y % 100) ++ 32 :: (clkT s ++ 32 :: zT neg z)) := by
      unfold iT
      rw [hb, e1]
      rfl
    rw [eD]
    have hr : rd ((48 + ((d / 10 : Nat) : Int)) :: (48 + ((d % 10 : Nat) : Int)) :: 45 :: b0 :: b1 :: b2 :: 45 :: (tw (y / 100) ++ tw (y % 100) ++ 32 :: (clkT s ++ 32 :: zT neg z))) 0 = 48 + ((d / 10 : Nat) : Int) := rfl
    rw [if_neg (by rw [hr]; exact h32)]
    unfold dz_front hT
    rw [hb, e2]
    show (if 48 + ((d / 10 : Nat) : Int) = 45 then 32 else 48 + ((d / 10 : Nat) : Int)) :: (if 48 + ((d % 10 : Nat) : Int) = 45 then 32 else 48 + ((d % 10 : Nat) : Int)) :: (if (45 : Int) = 45 then 32 else 45) :: (if b0 = 45 then 32 else b0) :: (if b1 = 45 then 32 else b1) :: (if b2 = 45 then 32 else b2) :: (if (45 : Int) = 45 then 32 else 45) :: _ = _
    rw [if_neg nd, if_neg nd2, if_pos rfl, if_neg n0, if_neg n1, if_neg n2]
    rfl
theorem zone_all (sec : Int) (h0 : 0 ≤ sec ∧ sec < 4294967296) (zone : Int) (h2 : -1440 < zone ∧ zone < 1440) :
    ∃ s : ByteArray, s.size = 28 ∧ Ev (fun k => date_Internal.f k sec zone) s ∧ Ev (fun k => date_ParseInternal.f k s) (sec, zone, true) ∧ Ev (fun k => date_Parse.f k (strOfNums (dz_front (dz_cut s)))) (sec, zone, true) := by
  obtain ⟨y, m, d, hD, hI⟩ := int_ok sec zone (by omega) h2 (by omega)
  have hP := pint_ok hD ((sec + 60 * zone) % 86400).toNat zone.natAbs (decide (zone < 0)) (by omega) (by omega)
  have hH := parse_ok hD ((sec + 60 * zone) % 86400).toNat zone.natAbs (decide (zone < 0)) (by omega) (by omega)
  have d3 := hD.2.2.1
  have d2 := hD.2.1
  have d5 := hD.2.2.2.2.1
  have hml := ml_pos y m
  have hzz : (if decide (zone < 0) = true then -((zone.natAbs : Nat) : Int) else ((zone.natAbs : Nat) : Int)) = zone := by
    by_cases hz0 : zone < 0
    · rw [if_pos (decide_eq_true hz0)]; omega
    · rw [if_neg (by rw [decide_eq_false hz0]; decide)]; omega
  have hsec : ((((sec + 60 * zone) / 86400 + 719162).toNat : Nat) : Int) - 719162 = (sec + 60 * zone) / 86400 := by omega
  have hsec2 : (sec + 60 * zone) / 86400 * 86400 + ((((sec + 60 * zone) % 86400).toNat : Nat) : Int) - 60 * zone = sec := by omega
  rw [hzz, hsec, hsec2] at hP hH
  refine ⟨_, ?_, hI, hP, ?_⟩
  · rw [strOfNums_size, iT_len' _ _ _ _ _ _ d3]
  · rw [front_ok y m d _ _ _ d2 d3 (by omega) (by omega) (by omega)]
    exact hH
theorem DateZones : letterboxlaw11_DateZones.Pure := by
  intro a0 a1 a2 w0 w1 w2
  have h0 := wf_u32 w0
  have h1 : -32768 ≤ a1 ∧ a1 ≤ 32767 := by
    have h := w1
    simp [Lit.wf, IntKind.min, IntKind.max, IntKind.signed, IntKind.bits] at h
    omega
  have h2 : -32768 ≤ a2 ∧ a2 ≤ 32767 := by
    have h := w2
    simp [Lit.wf, IntKind.min, IntKind.max, IntKind.signed, IntKind.bits] at h
    omega
  have bA : -1440 < Int.tmod a1 1440 ∧ Int.tmod a1 1440 < 1440 := ⟨Int.lt_tmod_of_pos a1 (by decide), Int.tmod_lt_of_pos a1 (by decide)⟩
  have bB : -1440 < Int.tmod a2 1440 ∧ Int.tmod a2 1440 < 1440 := ⟨Int.lt_tmod_of_pos a2 (by decide), Int.tmod_lt_of_pos a2 (by decide)⟩
  obtain ⟨s, hs, ⟨K1, H1⟩, ⟨K2, H2⟩, ⟨K3, H3⟩⟩ := zone_all a0 (by omega) _ bA
  obtain ⟨t, ht, ⟨K4, H4⟩, ⟨K5, H5⟩, _⟩ := zone_all a0 (by omega) _ bB
  refine ⟨K1 + K2 + K3 + K4 + K5, ?_⟩
  have q1 := H1 (K1 + K2 + K3 + K4 + K5) (by omega)
  have q2 := H2 (K1 + K2 + K3 + K4 + K5) (by omega)
  have q3 := H3 (K1 + K2 + K3 + K4 + K5) (by omega)
  have q4 := H4 (K1 + K2 + K3 + K4 + K5) (by omega)
  have q5 := H5 (K1 + K2 + K3 + K4 + K5) (by omega)
  dsimp only at q1 q2 q3 q4 q5
  unfold letterboxlaw11_DateZones.f
  rw [q1, Option.bind_some, q4, Option.bind_some, q2, Option.bind_some, q5, Option.bind_some, q3, Option.bind_some, if_pos ⟨h0.1, by omega, h1.1, h1.2, h2.1, h2.2, hs, ht, rfl, rfl, rfl⟩]
end Go.Proofs.YtmbiggcapakjjaaDoor.Pure
