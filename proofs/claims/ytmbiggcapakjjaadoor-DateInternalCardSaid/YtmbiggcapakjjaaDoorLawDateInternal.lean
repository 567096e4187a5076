/- DateInternal: the row's proof: its struct opened, the walk, the argument read behind the call as it did. -/
import Derived.Test.YtmbiggcapakjjaaDoorRows
import Derived.Test.YtmbiggcapakjjaaDoorPx14
import Derived.Test.YtmbiggcapakjjaaDoorPureDateInternal
import Derived.Test.YtmbiggcapakjjaaDoorTie
import Derived.Test.YtmbiggcapakjjaaDoorCards
import Derived.Test.YtmbiggcapakjjaaDoorLaid
import Derived.Handed
import Derived.Test.YtmbiggcapakjjaaDoorShaped
import Derived.LaidMore
import Derived.Stop.Joined
import Derived.SevenTiedAt
import Derived.Lib.SmallJoins
import Derived.WalkKit
import Derived.ProofKit
import Derived.OpenShut
import Derived.ShutString
import Derived.ChangeOld
import Derived.Below
import Derived.SizedLaws
namespace Go.Proofs.YtmbiggcapakjjaaDoor.dateInternal
open Go.ChangeShapes Go.WideShapes Go.ChangeAt Go.RowKit
open Go.ChangeMaps (open_string shut_string)
set_option linter.unusedVariables false
theorem laidOut : laidOutB Tryd.prog = true := by kernel_rfl
theorem own : ownKnob Tryd.prog.godebug = none := by kernel_rfl
set_option maxRecDepth 100000 in
theorem lifted (os : Os) (started : os.Started) (H : Type) (enc : TypeId × Value → H) :
    ReturnsInHanded {} Tryd.checked os 4 .any (fun w args => (Rows.dateInternalSpec.pre enc Tryd.prog Tryd.f4 [] false w args ∧ laidMetH Tryd.prog Laid.laidL w) ∧ sizedMet enc Tryd.prog Tryd.f4 (OpenSpec.ofChange Rows.dateInternalSpec) false w args) (Rows.dateInternalSpec.post enc Tryd.prog Tryd.f4 false true false false) := by
  refine Shp.wrap (C := Tryd.checked) (X := fun w _ => laidMetH Tryd.prog Laid.laidL w) (fun _ _ _ hh h => h.of_heap hh) own started (by kernel_rfl) Tryd.func4
    (ChangeSpec.witness_shaped (enc := enc) (C := Tryd.checked) (os := os) (X := fun w _ => laidMetH Tryd.prog Laid.laidL w) false (Laid.wit os) #[.agg #[.int .i64 0, .int .i64 0]] 8 (Laid.wit_os os) (Laid.wit_shaped os) (by kernel_rfl) (by kernel_rfl) (by kernel_rfl) (Laid.door_met os _)) ?_
  intro W base args ds gs before hval0 hW hcnd hsz0 hL0 hsh _
  have hsz : (DataW.weightsEach Tryd.prog (Tryd.f4.params.toList ++ Rows.dateInternalSpec.plain.varTypes Tryd.prog) (ds ++ gs)).all (· ≤ reachBytes) = true := hsz0
  have hval : ∀ (j : Nat) t v, Tryd.f4.params[j]? = some t → args[j]? = some v → Value.okWide Tryd.prog W .any base t v := hval0
  have hW' := hW
  obtain ⟨p, q, hA0, hV, rfl, hfz, hnd⟩ := hW
  have hA : DataW.TrodAll enc Tryd.prog W 0 (fun _ => true) true Tryd.f4.params.toList args.toList ds p := hA0
  rw [Tryd.params4] at hA hval hsz
  obtain ⟨v0, vs0, d0, ds0, p0, q0, hargs, rfl, rfl, h0, r0⟩ := trodAll_cons hA
  obtain ⟨rfl, rfl, rfl⟩ := trodAll_nil r0
  obtain rfl : args = #[v0] := by cases args; simp_all
  obtain ⟨rfl, rfl⟩ := trodVars_none hV
  have k0 := h0
  have lt0 : ∀ x ∈ p0, x.block < W.heap.size := by obtain ⟨m, hm⟩ := k0; exact DataW.trod_lt m _ _ _ hm
  obtain ⟨c0, c1, y0, y1, n1, rfl, _, _, t0, t1⟩ := Go.Joins.open_agg2 Tryd.underlying24 (by kernel_rfl) (by kernel_rfl) (hval 0 24 v0 rfl rfl) h0
  obtain ⟨x0, e0, _, _⟩ := DataW.trod_int Tryd.underlying2 t0
  obtain ⟨x1, e1, _, _⟩ := DataW.trod_int Tryd.underlying3 t1
  simp only [List.cons.injEq, and_true] at e0 e1
  subst e0 e1
  clear hA0 hval0 hsz0 hsz
  obtain ⟨k, hk⟩ := Pure.DateInternal x0 x1
  refine (P.letterboxlaw11_DateInternal.calls k x0 x1 true W hk (Laid.of_laid hL0 hsh)).mono fun e W' ⟨he, bel⟩ => ?_
  subst he
  exact ⟨_, rfl, _, _, _, [], _, [], hW', trodAll_mk1 (shut_bool Tryd.underlying4 _), (trodAll_cons_mk (Below.trod laidOut (by kernel_rfl) (of_decide_eq_true (by kernel_rfl)) k0 bel lt0) trodAll_mk0), rfl, bel.frame _, fun h => by cases h⟩
theorem over : Rows.dateInternalRow.holds Tryd.pinned (OpenSpec.ofChange Rows.dateInternalSpec) :=
  OpenClaim.holds_of_wide 4 Tryd.f4 rfl rfl rfl rfl rfl rfl rfl ⟨rfl, rfl, rfl, rfl, rfl⟩ rfl rfl rfl rfl rfl (by kernel_rfl) Tryd.func4 (by kernel_rfl)
    (of_decide_eq_true (by kernel_rfl)) (by unfold Func.isWrapper; first | (rw [if_pos (by decide +kernel)]; kernel_rfl) | (rw [if_neg (by decide +kernel)]; exact ⟨rfl, rfl⟩))
    (fun os started H enc _ => lifted os started H enc)
set_option maxRecDepth 100000 in
theorem proved : Rows.DateInternalCardSaid :=
  Claim7.holds_tied_plain_at .later [] [.data, .data, .pinned] true (true, "79f082d9d358ccdcc65a7cfdd15dcfb4444142ac59ff0f56665720fcbf0db886") false
    over (fun _ h => by cases h) (by kernel_rfl) (fun _ h => by cases h) dateInternal_row_tie rfl ⟨rfl, rfl⟩ (by kernel_rfl) rfl
    (fun f fn hf hfn => by
      obtain rfl : f = 4 := Option.some.inj ((show Tryd.prog.funcNamed "letterbox/letterboxlaw11.DateInternal" = some 4 by kernel_rfl).symm.trans hf) |>.symm
      obtain rfl : fn = Tryd.f4 := (Option.some.inj (Tryd.func4.symm.trans hfn)).symm
      exact ⟨by kernel_rfl, fun j t ht => by
        have hm : t ∈ Tryd.f4.params.toList := by simpa using Array.mem_of_getElem? ht
        have hall : (Tryd.f4.params.toList.all fun u => !Tryd.prog.wantsStandIn u) = true := by kernel_rfl
        exact (show Tryd.prog.wantsStandIn t = false by simpa using List.all_eq_true.1 hall t hm)⟩)
    (by kernel_rfl)
#print axioms proved
end Go.Proofs.YtmbiggcapakjjaaDoor.dateInternal
namespace Go.Proofs.YtmbiggcapakjjaaDoor
/-- The row's tied card, under a short name, for the claim. -/
theorem dateInternal_holds : Rows.DateInternalCardSaid := dateInternal.proved
end Go.Proofs.YtmbiggcapakjjaaDoor
