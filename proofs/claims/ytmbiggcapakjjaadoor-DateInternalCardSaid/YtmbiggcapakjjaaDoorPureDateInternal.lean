/- Any moment as IMAP tells it, and its day, are the document's; what is told is read as it was: the law in plain words, proved. -/
import Derived.Test.YtmbiggcapakjjaaDoorPI
import Derived.Test.YtmbiggcapakjjaaDoorRInt
import Derived.Test.YtmbiggcapakjjaaDoorPx14
set_option linter.unusedVariables false
set_option linter.unusedSimpArgs false
namespace Go.Proofs.YtmbiggcapakjjaaDoor.Pure
open Go.RowKit Go.Proofs.YtmbiggcapakjjaaDoor.P Go.Proofs.YtmbiggcapakjjaaDoorW.PrintWords Go.Proofs.YtmbiggcapakjjaaDoorW.PrintLast Go.Proofs.YtmbiggcapakjjaaDoor.Aids Go.Proofs.YtmbiggcapakjjaaDoor.Chars Go.Proofs.YtmbiggcapakjjaaDoor.Cal Go.Proofs.YtmbiggcapakjjaaDoor.Txt Go.Proofs.YtmbiggcapakjjaaDoor.Int
theorem iday_f (sec zone : Int) (h1 : -4611686018427387904 ≤ sec + 60 * zone ∧ sec + 60 * zone ≤ 4611686018427387904) (h2 : -4611686018427387904 ≤ 60 * zone ∧ 60 * zone ≤ 4611686018427387904) : date_Day.f sec zone = some ((sec + 60 * zone) / 86400) := by
  unfold date_Day.f
  have e1 : wrap64 (sec + wrap64 (zone * 60)) = sec + 60 * zone := by
    rw [w64 (x := zone * 60) (by omega) (by omega), w64 (by omega) (by omega)]; omega
  rw [e1, floor_f _ h1]
  rfl
theorem int_bad (sec zone : Int) (h : zone ≤ -1440 ∨ zone ≥ 1440 ∨ sec > 1099511627776 ∨ sec < -1099511627776) : Ev (fun k => date_Internal.f k sec zone) (strOfNums []) := by
  have hT : Ev (fun k => date_Internal.j0 k true sec zone) (strOfNums []) := by
    refine st (fun k => by rw [date_Internal.j0]) ?_
    exact yes rfl (fin rfl)
  unfold date_Internal.f
  by_cases h1 : zone ≤ -1440
  · exact yes h1 hT
  · refine no h1 ?_
    by_cases h2 : zone ≥ 1440
    · exact yes h2 hT
    · refine no h2 ?_
      by_cases h3 : sec > 1099511627776
      · exact yes h3 hT
      · refine no h3 ?_
        rw [decide_eq_true (by omega)]
        exact hT
theorem rint_bad (sec zone : Int) (h : zone ≤ -1440 ∨ zone ≥ 1440 ∨ sec > 1099511627776 ∨ sec < -1099511627776) : Ev (fun k => letterboxref11_Internal.f k sec zone) (strOfNums []) := by
  have hT : Ev (fun k => letterboxref11_Internal.j0 k true sec zone) (strOfNums []) := by
    refine st (fun k => by rw [letterboxref11_Internal.j0]) ?_
    exact yes rfl (fin rfl)
  unfold letterboxref11_Internal.f
  by_cases h1 : zone ≤ -1440
  · exact yes h1 hT
  · refine no h1 ?_
    by_cases h2 : zone ≥ 1440
    · exact yes h2 hT
    · refine no h2 ?_
      by_cases h3 : sec > 1099511627776
      · exact yes h3 hT
      · refine no h3 ?_
        rw [decide_eq_true (by omega)]
        exact hT
theorem pint_none : Ev (fun k => date_ParseInternal.f k (strOfNums [])) (0, 0, false) := by
  unfold date_ParseInternal.f
  refine no (by decide) ?_
  refine st (fun k => by rw [date_ParseInternal.j0]) ?_
  exact yes rfl (fin rfl)
theorem internal_j0 (sec zone : Int) (h1 : -1125899906842624 ≤ sec ∧ sec ≤ 1125899906842624) (h2 : -1073741824 ≤ zone ∧ zone ≤ 1073741824) : Ev (fun k => letterboxlaw11_DateInternal.j0 k false sec zone) true := by
  have hd := iday_f sec zone (by omega) (by omega)
  have hr := rday_f sec zone (by omega) (by omega)
  refine st (fun k => by rw [letterboxlaw11_DateInternal.j0]) ?_
  refine no (by decide) ?_
  rw [hd, hr]
  have hnone : ∀ {P Q : Nat → Option ByteArray}, Ev P (strOfNums []) → Ev Q (strOfNums []) → Ev (fun k => (P k).bind fun t284 => ((Q k).bind fun t285 => (if t284.toList = t285.toList then ((some ((sec + 60 * zone) / 86400)).bind fun t286 => ((some ((sec + 60 * zone) / 86400)).bind fun t287 => (if t286 = t287 then ((date_ParseInternal.f k t284).bind fun bt288 => (if t284.toList = ([] : List UInt8) then (if bt288.2.2 = true then (some (bt288.1 == sec && (bt288.2.1 == zone))) else (some true)) else (if bt288.2.2 = true then (some (bt288.1 == sec && (bt288.2.1 == zone))) else (some false)))) else (some false)))) else (some false)))) true := by
    intro P Q hP hQ
    refine bnd hP (bnd hQ (yes rfl (bs (bs (yes rfl (bnd pint_none ?_))))))
    refine yes (by rw [str_toList_nil]) ?_
    exact no (by decide) (fin rfl)
  by_cases hb : zone ≤ -1440 ∨ zone ≥ 1440 ∨ sec > 1099511627776 ∨ sec < -1099511627776
  · exact hnone (int_bad sec zone hb) (rint_bad sec zone hb)
  · have hs : -1099511627776 ≤ sec ∧ sec ≤ 1099511627776 := by omega
    have hz : -1440 < zone ∧ zone < 1440 := by omega
    by_cases ho : (sec + 60 * zone) / 86400 + 719162 < 0 ∨ 3652059 ≤ (sec + 60 * zone) / 86400 + 719162
    · exact hnone (int_out sec zone hs hz ho) (rint_out sec zone hs hz ho)
    · obtain ⟨y, m, d, hD, hI⟩ := int_ok sec zone hs hz (by omega)
      have hR := rint_ok sec zone hs hz (by omega) hD
      have hP := pint_ok hD ((sec + 60 * zone) % 86400).toNat zone.natAbs (decide (zone < 0)) (by omega) (by omega)
      have d3 := hD.2.2.1
      have hlen := iT_len' y m d ((sec + 60 * zone) % 86400).toNat zone.natAbs (decide (zone < 0)) d3
      have hzz : (if decide (zone < 0) = true then -((zone.natAbs : Nat) : Int) else ((zone.natAbs : Nat) : Int)) = zone := by
        by_cases hz0 : zone < 0
        · rw [if_pos (decide_eq_true hz0)]; omega
        · rw [if_neg (by rw [decide_eq_false hz0]; decide)]; omega
      rw [hzz] at hP
      have hsec : ((((sec + 60 * zone) / 86400 + 719162).toNat : Nat) : Int) - 719162 = (sec + 60 * zone) / 86400 := by omega
      rw [hsec] at hP
      have hsec2 : (sec + 60 * zone) / 86400 * 86400 + ((((sec + 60 * zone) % 86400).toNat : Nat) : Int) - 60 * zone = sec := by omega
      rw [hsec2] at hP
      refine bnd hI (bnd hR (yes rfl (bs (bs (yes rfl (bnd hP ?_))))))
      refine no ?_ ?_
      · rw [str_toList_nil]
        intro e
        rw [e] at hlen
        simp at hlen
      · exact yes rfl (fin (by simp))
theorem DateInternal : ∀ (sec zone : Int), ∃ k, letterboxlaw11_DateInternal.f k sec zone = some true := by
  intro sec zone
  refine Ev.rounds (g := fun k => letterboxlaw11_DateInternal.f k sec zone) ?_
  have hT : Ev (fun k => letterboxlaw11_DateInternal.j0 k true sec zone) true := by
    refine st (fun k => by rw [letterboxlaw11_DateInternal.j0]) ?_
    exact yes rfl (fin rfl)
  show Ev (fun k => (letterboxlaw11_awake.f).bind _) _
  refine bs ?_
  refine yes rfl ?_
  by_cases h1 : sec > 1125899906842624
  · exact yes h1 hT
  · refine no h1 ?_
    by_cases h2 : sec < -1125899906842624
    · exact yes h2 hT
    · refine no h2 ?_
      by_cases h3 : zone > 1073741824
      · exact yes h3 hT
      · refine no h3 ?_
        by_cases h4 : zone < -1073741824
        · rw [decide_eq_true h4]; exact hT
        · rw [decide_eq_false h4]
          exact internal_j0 sec zone (by omega) (by omega)
end Go.Proofs.YtmbiggcapakjjaaDoor.Pure
