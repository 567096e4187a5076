/- SectionPuts: the row's proof: its struct opened, the walk, the argument read behind the call as it did. -/
import Derived.Test.YtbjbagocnnffaaaDoorRows
import Derived.Test.YtbjbagocnnffaaaDoorPx15
import Derived.Test.YtbjbagocnnffaaaDoorPureSectionPuts
import Derived.Test.YtbjbagocnnffaaaDoorTie
import Derived.Test.YtbjbagocnnffaaaDoorCards
import Derived.Test.YtbjbagocnnffaaaDoorLaid
import Derived.Handed
import Derived.LaidMore
import Derived.Stop.Joined
import Derived.SevenTiedAt
import Derived.Test.YtbjbagocnnffaaaDoorAgg6
import Derived.Test.YtbjbagocnnffaaaDoorOpen
import Derived.Test.YtbjbagocnnffaaaDoorWMore
import Derived.WalkKit
import Derived.ProofKit
import Derived.OpenShut
import Derived.ShutString
import Derived.ChangeOld
import Derived.Below
import Derived.SizedLaws
namespace Go.Proofs.YtbjbagocnnffaaaDoor.sectionPuts
open Go.ChangeShapes Go.WideShapes Go.ChangeAt Go.RowKit
open Go.ChangeMaps (open_string shut_string)
set_option linter.unusedVariables false
theorem laidOut : laidOutB Tryd.prog = true := by kernel_rfl
theorem own : ownKnob Tryd.prog.godebug = none := by kernel_rfl
set_option maxRecDepth 100000 in
theorem lifted (os : Os) (started : os.Started) (H : Type) (enc : TypeId × Value → H) :
    ReturnsInHanded {} Tryd.checked os 4 .any (fun w args => (Rows.sectionPutsSpec.pre enc Tryd.prog Tryd.f4 [] false w args ∧ laidMetH Tryd.prog Laid.laidL w) ∧ sizedMet enc Tryd.prog Tryd.f4 (OpenSpec.ofChange Rows.sectionPutsSpec) false w args) (Rows.sectionPutsSpec.post enc Tryd.prog Tryd.f4 false true false false) := by
  refine returnsInHanded_of_change_and (C := Tryd.checked) (X := fun w _ => laidMetH Tryd.prog Laid.laidL w) (fun _ _ _ hh h => h.of_heap hh) own started (by kernel_rfl) Tryd.func4
    (ChangeSpec.witness_shaped (enc := enc) (C := Tryd.checked) (os := os) (X := fun w _ => laidMetH Tryd.prog Laid.laidL w) false (World.doorLaid Tryd.prog 14 os) #[.agg #[.slice none 0 0, .int .i64 0, .slice none 0 0, .bool false, .int .i64 0, .int .i64 0]] 8 rfl (World.shaped_of_RefB (by kernel_rfl) (by kernel_rfl)) (by kernel_rfl) (by kernel_rfl) (by kernel_rfl) (Laid.door_met os _)) ?_
  intro W base args ds gs before hval0 hW hcnd hsz0 hL0 _
  have hsz : (DataW.weightsEach Tryd.prog (Tryd.f4.params.toList ++ Rows.sectionPutsSpec.plain.varTypes Tryd.prog) (ds ++ gs)).all (· ≤ reachBytes) = true := hsz0
  have hval : ∀ (j : Nat) t v, Tryd.f4.params[j]? = some t → args[j]? = some v → Value.okWide Tryd.prog W .any base t v := hval0
  have hW' := hW
  obtain ⟨p, q, hA0, hV, rfl, hfz, hnd⟩ := hW
  have hA : DataW.TrodAll enc Tryd.prog W 0 (fun _ => true) true Tryd.f4.params.toList args.toList ds p := hA0
  rw [Tryd.params4] at hA hval hsz
  obtain ⟨v0, vs0, d0, ds0, p0, q0, hargs, rfl, rfl, h0, r0⟩ := trodAll_cons hA
  obtain ⟨rfl, rfl, rfl⟩ := trodAll_nil r0
  obtain rfl : args = #[v0] := by cases args; simp_all
  obtain ⟨rfl, rfl⟩ := trodVars_none hV
  have k0 := h0
  have lt0 : ∀ x ∈ p0, x.block < W.heap.size := by obtain ⟨m, hm⟩ := k0; exact DataW.trod_lt m _ _ _ hm
  have hw0 := Open.weights_of hsz (j := 0) (T := 26) rfl rfl
  obtain ⟨c0, c1, c2, c3, c4, c5, y0, y1, y2, y3, y4, y5, n, rfl, rfl, t0, t1, t2, t3, t4, t5⟩ := Agg.open_agg6 Tryd.underlying26 (by kernel_rfl) (by kernel_rfl) (hval 0 26 v0 rfl rfl) h0
  have hwe : ∀ (j : Nat) (T : TypeId) (d : DataW H), ([23, 3, 24, 4, 3, 3] : List TypeId)[j]? = some T → [y0.1, y1.1, y2.1, y3.1, y4.1, y5.1][j]? = some d → ∀ m ∈ d.weights Tryd.prog T, m ≤ reachBytes := by
    intro j T d hT hd m hm
    apply hw0
    rw [DataW.weights, Tryd.underlying26]
    exact DataW.weights_mem_each hT hd m hm
  obtain ⟨P0, ⟨A0, q0, e0, hl0, hC0⟩, g0⟩ := Open.opens_slice (k := Go.Proofs.YtbjbagocnnffaaaDoorW.PrintWords.Kd.int .i64) Tryd.underlying23 (by kernel_rfl) (B := 8) (by kernel_rfl) (Open.opens_int Tryd.underlying3) _ _ _ t0 (hwe 0 23 _ rfl rfl)
  obtain ⟨x1, e1, _, _⟩ := DataW.trod_int Tryd.underlying3 t1
  obtain ⟨P2, ⟨A2, q2, e2, hl2, hC2⟩, g2⟩ := Open.opens_slice (k := Go.Proofs.YtbjbagocnnffaaaDoorW.PrintWords.Kd.string) Tryd.underlying24 (by kernel_rfl) (B := 16) (by kernel_rfl) (Open.opens_string Tryd.underlying9) _ _ _ t2 (hwe 2 24 _ rfl rfl)
  obtain ⟨x3, e3, _⟩ := DataW.trod_bool Tryd.underlying4 t3
  obtain ⟨x4, e4, _, _⟩ := DataW.trod_int Tryd.underlying3 t4
  obtain ⟨x5, e5, _, _⟩ := DataW.trod_int Tryd.underlying3 t5
  simp only [List.cons.injEq, and_true] at e0 e1 e2 e3 e4 e5
  subst e0 e1 e2 e3 e4 e5
  clear hA0 hval0 hsz0 hsz hw0 hwe
  obtain ⟨k, hk⟩ := Pure.SectionPuts P0 x1 P2 x3 x4 x5 g2
  refine (P.letterboxlaw15_SectionPuts.calls k A0 q0 P0 x1 A2 q2 P2 x3 x4 x5 true W hC0 hl0 hC2 hl2 hk (Laid.of_laid hL0)).mono fun e W' ⟨he, bel⟩ => ?_
  subst he
  exact ⟨_, rfl, _, _, _, [], _, [], hW', trodAll_mk1 (shut_bool Tryd.underlying4 _), (trodAll_cons_mk (Below.trod laidOut (by kernel_rfl) (of_decide_eq_true (by kernel_rfl)) k0 bel lt0) trodAll_mk0), rfl, bel.frame _, fun h => by cases h⟩
theorem over : Rows.sectionPutsRow.holds Tryd.pinned (OpenSpec.ofChange Rows.sectionPutsSpec) :=
  OpenClaim.holds_of_wide 4 Tryd.f4 rfl rfl rfl rfl rfl rfl rfl ⟨rfl, rfl, rfl, rfl, rfl⟩ rfl rfl rfl rfl rfl (by kernel_rfl) Tryd.func4 (by kernel_rfl)
    (of_decide_eq_true (by kernel_rfl)) (by unfold Func.isWrapper; first | (rw [if_pos (by decide +kernel)]; kernel_rfl) | (rw [if_neg (by decide +kernel)]; exact ⟨rfl, rfl⟩))
    (fun os started H enc _ => lifted os started H enc)
set_option maxRecDepth 100000 in
theorem proved : Rows.SectionPutsCardSaid :=
  Claim7.holds_tied_plain_at .later [] [.data] true (true, "6e38268bcc34f55a322c0a40b6a9ef2e287b3e4cb630afa5514ddad652c4a25c") false
    over (fun _ h => by cases h) (by kernel_rfl) (fun _ h => by cases h) sectionPuts_row_tie rfl ⟨rfl, rfl⟩ (by kernel_rfl) rfl
    (fun f fn hf hfn => by
      obtain rfl : f = 4 := Option.some.inj ((show Tryd.prog.funcNamed "letterbox/letterboxlaw15.SectionPuts" = some 4 by kernel_rfl).symm.trans hf) |>.symm
      obtain rfl : fn = Tryd.f4 := (Option.some.inj (Tryd.func4.symm.trans hfn)).symm
      exact ⟨by kernel_rfl, fun j t ht => by
        have hm : t ∈ Tryd.f4.params.toList := by simpa using Array.mem_of_getElem? ht
        have hall : (Tryd.f4.params.toList.all fun u => !Tryd.prog.wantsStandIn u) = true := by kernel_rfl
        exact (show Tryd.prog.wantsStandIn t = false by simpa using List.all_eq_true.1 hall t hm)⟩)
    (by kernel_rfl)
#print axioms proved
end Go.Proofs.YtbjbagocnnffaaaDoor.sectionPuts
namespace Go.Proofs.YtbjbagocnnffaaaDoor
/-- The row's tied card, under a short name, for the claim. -/
theorem sectionPuts_holds : Rows.SectionPutsCardSaid := sectionPuts.proved
end Go.Proofs.YtbjbagocnnffaaaDoor
