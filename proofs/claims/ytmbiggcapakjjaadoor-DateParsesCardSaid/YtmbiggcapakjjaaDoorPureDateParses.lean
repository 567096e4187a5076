/- The moment of any text, by a header's form, by IMAP's, and as a day, is the document's: the law in plain words, proved. -/
import Derived.Test.YtmbiggcapakjjaaDoorDpD
import Derived.Test.YtmbiggcapakjjaaDoorPx17
set_option linter.unusedVariables false
set_option linter.unusedSimpArgs false
namespace Go.Proofs.YtmbiggcapakjjaaDoor.Pure
open Go.RowKit Go.Proofs.YtmbiggcapakjjaaDoor.P Go.Proofs.YtmbiggcapakjjaaDoorW.PrintWords Go.Proofs.YtmbiggcapakjjaaDoorW.PrintLast Go.Proofs.YtmbiggcapakjjaaDoor.Aids Go.Proofs.YtmbiggcapakjjaaDoor.Chars Go.Proofs.YtmbiggcapakjjaaDoor.Dp
theorem DateParses : letterboxlaw11_DateParses.Pure := by
  intro a0 _
  have main : Ev (fun k => letterboxlaw11_DateParses.f k a0) true := by
    show Ev (fun k => (letterboxlaw11_awake.f).bind _) _
    unfold letterboxlaw11_awake.f
    refine bs (yes rfl ?_)
    by_cases h : (a0.size : Int) > 200
    · exact yes h (fin rfl)
    · refine no h ?_
      have hb := byte_bytes a0
      have hl : (bytesOf a0).length ≤ 200 := by rw [size_bytes]; omega
      have he : strOfNums (bytesOf a0) = a0 := str_bytes a0
      obtain ⟨p, p1, p2⟩ := parse2 hb hl
      obtain ⟨q, q1, q2⟩ := pint2 hb hl
      obtain ⟨r, r1, r2⟩ := pday2 hb hl
      rw [he] at p1 p2 q1 q2 r1 r2
      refine bnd p1 (bnd p2 (bnd q1 (bnd q2 (bnd r1 (bnd r2 ?_)))))
      refine yes rfl (yes rfl (yes (beq_self_eq_true _) (yes rfl (yes rfl (yes (beq_self_eq_true _) (yes rfl (fin (beq_self_eq_true _))))))))
  obtain ⟨K, hK⟩ := main
  exact ⟨K, hK K (Nat.le_refl _)⟩
end Go.Proofs.YtmbiggcapakjjaaDoor.Pure
