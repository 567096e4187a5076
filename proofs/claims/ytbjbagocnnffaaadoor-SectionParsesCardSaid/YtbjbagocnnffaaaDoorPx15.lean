-- Written by a program of this session (wip/tools/mk.sh) for this claim: it runs the kit's print with contracts of our own. Lean checks it.
import Derived.Test.YtbjbagocnnffaaaDoorPx0
import Derived.Test.YtbjbagocnnffaaaDoorWRepsOne
import Derived.Test.YtbjbagocnnffaaaDoorWGuard
import Derived.Test.YtbjbagocnnffaaaDoorZStr
import Derived.Test.YtbjbagocnnffaaaDoorPx10
import Derived.Test.YtbjbagocnnffaaaDoorPx11
import Derived.Test.YtbjbagocnnffaaaDoorPx12
import Derived.Test.YtbjbagocnnffaaaDoorPx14
namespace Go.Proofs.YtbjbagocnnffaaaDoor.P
open Go.RowKit Go.Proofs.YtbjbagocnnffaaaDoorW.PrintWords Go.Proofs.YtbjbagocnnffaaaDoorW.PrintLast Go.Proofs.YtbjbagocnnffaaaDoorW.PrintMore
attribute [-simp] Int.tmod_tmod_of_dvd ByteArray.size_extract
attribute [local go_sem] max2_int min2_int max_two min_two max_three min_three max_four min_four   -- for this text's walks alone
set_option linter.unusedVariables false
set_option linter.unusedSimpArgs false

/-! ### letterboxref15_Parse: function 9 -/
mutual
def letterboxref15_Parse.j0 : Nat → ByteArray → Bool → Option (List Int × Int × List ByteArray × Bool × Int × Int × Int)
 | 0, _, _ => none
 | k + 1, x0, x28 => if x28 = true then (some (([] : List Int), 0, ([] : List ByteArray), false, 0, 0, 50)) else ((letterboxref15_last.f k x0 93).bind fun t248 => (if t248 < 0 then (some (([] : List Int), 0, ([] : List ByteArray), false, 0, 0, 50)) else (if 1 ≤ t248 then (if t248 ≤ (x0.size : Int) then (if 0 ≤ (wrap64 (t248 + 1)) then (if (wrap64 (t248 + 1)) ≤ (x0.size : Int) then (if (x0.extract ((wrap64 (t248 + 1)) : Int).toNat x0.size).toList = ([] : List UInt8) then (letterboxref15_Parse.j1 k (x0.extract 1 (t248 : Int).toNat) (x0.extract ((wrap64 (t248 + 1)) : Int).toNat x0.size)) else (if ((x0.extract ((wrap64 (t248 + 1)) : Int).toNat x0.size).size : Int) < 5 then (some (([] : List Int), 0, ([] : List ByteArray), false, 0, 0, 50)) else (if 0 < ((x0.extract ((wrap64 (t248 + 1)) : Int).toNat x0.size).size : Int) then (if (bt (x0.extract ((wrap64 (t248 + 1)) : Int).toNat x0.size) 0) = 60 then (if 0 ≤ (wrap64 (((x0.extract ((wrap64 (t248 + 1)) : Int).toNat x0.size).size : Int) - 1)) then (if (wrap64 (((x0.extract ((wrap64 (t248 + 1)) : Int).toNat x0.size).size : Int) - 1)) < ((x0.extract ((wrap64 (t248 + 1)) : Int).toNat x0.size).size : Int) then (if (bt (x0.extract ((wrap64 (t248 + 1)) : Int).toNat x0.size) (wrap64 (((x0.extract ((wrap64 (t248 + 1)) : Int).toNat x0.size).size : Int) - 1))) = 62 then (letterboxref15_Parse.j1 k (x0.extract 1 (t248 : Int).toNat) (x0.extract ((wrap64 (t248 + 1)) : Int).toNat x0.size)) else (some (([] : List Int), 0, ([] : List ByteArray), false, 0, 0, 50))) else (none)) else (none)) else (some (([] : List Int), 0, ([] : List ByteArray), false, 0, 0, 50))) else (none)))) else (none)) else (none)) else (none)) else (none))))
def letterboxref15_Parse.j1 : Nat → ByteArray → ByteArray → Option (List Int × Int × List ByteArray × Bool × Int × Int × Int)
 | 0, _, _ => none
 | k + 1, x5, x6 => (letterboxref15_head.f k x5 32).bind fun bt249 => ((letterboxref15_what.f k bt249.1).bind fun bt252 => (if bt252.2.2.2.2.2.2 = true then (if bt249.2.2 = true then (if (bt249.2.1.size : Int) < 2 then (letterboxref15_Parse.j2 k x6 bt249.2.1 true bt252.1 bt252.2.1 bt252.2.2.1 bt252.2.2.2.1 bt252.2.2.2.2.1 bt252.2.2.2.2.2.1) else (if 0 < (bt249.2.1.size : Int) then (if (bt bt249.2.1 0) = 40 then (if 0 ≤ (wrap64 ((bt249.2.1.size : Int) - 1)) then (if (wrap64 ((bt249.2.1.size : Int) - 1)) < (bt249.2.1.size : Int) then (letterboxref15_Parse.j2 k x6 bt249.2.1 ((bt bt249.2.1 (wrap64 ((bt249.2.1.size : Int) - 1))) != 41) bt252.1 bt252.2.1 bt252.2.2.1 bt252.2.2.2.1 bt252.2.2.2.2.1 bt252.2.2.2.2.2.1) else (none)) else (none)) else (letterboxref15_Parse.j2 k x6 bt249.2.1 true bt252.1 bt252.2.1 bt252.2.2.1 bt252.2.2.2.1 bt252.2.2.2.2.1 bt252.2.2.2.2.2.1)) else (none))) else (letterboxref15_Parse.j3 k x6 bt252.1 bt252.2.1 bt252.2.2.1 bt252.2.2.2.1 bt252.2.2.2.2.1 bt252.2.2.2.2.2.1)) else (some (([] : List Int), 0, ([] : List ByteArray), false, 0, 0, 50))))
def letterboxref15_Parse.j3 : Nat → ByteArray → List Int → Int → List ByteArray → Bool → Int → Int → Option (List Int × Int × List ByteArray × Bool × Int × Int × Int)
 | 0, _, _, _, _, _, _, _ => none
 | k + 1, x6, x264000, x264001, x264002, x264003, x264004, x264005 => if x6.toList = ([] : List UInt8) then ((letterboxref15_Check.f k x264000 x264001 x264002 x264003 x264004 x264005).bind fun t268 => (if t268 = 0 then (some (x264000, x264001, x264002, x264003, x264004, x264005, 0)) else (some (([] : List Int), 0, ([] : List ByteArray), false, 0, 0, 50)))) else (if 1 ≤ (wrap64 ((x6.size : Int) - 1)) then (if (wrap64 ((x6.size : Int) - 1)) ≤ (x6.size : Int) then ((letterboxref15_head.f k (x6.extract 1 ((wrap64 ((x6.size : Int) - 1)) : Int).toNat) 46).bind fun bt269 => ((letterboxref01_Number.f k bt269.1).bind fun bt272 => ((letterboxref01_Number.f k bt269.2.1).bind fun bt274 => (if bt269.2.2 = true then (if bt272.2 = true then (letterboxref15_Parse.j4 k bt272.1 bt274.1 (!bt274.2) x264000 x264001 x264002 x264003 x264004 x264005) else (letterboxref15_Parse.j4 k bt272.1 bt274.1 true x264000 x264001 x264002 x264003 x264004 x264005)) else (letterboxref15_Parse.j4 k bt272.1 bt274.1 true x264000 x264001 x264002 x264003 x264004 x264005))))) else (none)) else (none))
def letterboxref15_Parse.j4 : Nat → Int → Int → Bool → List Int → Int → List ByteArray → Bool → Int → Int → Option (List Int × Int × List ByteArray × Bool × Int × Int × Int)
 | 0, _, _, _, _, _, _, _, _, _ => none
 | k + 1, x18, x20, x138, x264000, x264001, x264002, x264003, x264004, x264005 => if x138 = true then (some (([] : List Int), 0, ([] : List ByteArray), false, 0, 0, 50)) else ((letterboxref15_Check.f k x264000 x264001 x264002 true x18 x20).bind fun t276 => (if t276 = 0 then (some (x264000, x264001, x264002, true, x18, x20, 0)) else (some (([] : List Int), 0, ([] : List ByteArray), false, 0, 0, 50))))
def letterboxref15_Parse.j2 : Nat → ByteArray → ByteArray → Bool → List Int → Int → List ByteArray → Bool → Int → Int → Option (List Int × Int × List ByteArray × Bool × Int × Int × Int)
 | 0, _, _, _, _, _, _, _, _, _ => none
 | k + 1, x6, x9, x91, x264000, x264001, x264002, x264003, x264004, x264005 => if x91 = true then (some (([] : List Int), 0, ([] : List ByteArray), false, 0, 0, 50)) else (if 1 ≤ (wrap64 ((x9.size : Int) - 1)) then (if (wrap64 ((x9.size : Int) - 1)) ≤ (x9.size : Int) then ((letterboxref15_names.f k (x9.extract 1 ((wrap64 ((x9.size : Int) - 1)) : Int).toNat)).bind fun bt264 => (if bt264.2 = true then (letterboxref15_Parse.j3 k x6 x264000 x264001 bt264.1 x264003 x264004 x264005) else (some (([] : List Int), 0, ([] : List ByteArray), false, 0, 0, 50)))) else (none)) else (none))
end
def letterboxref15_Parse.f (k : Nat) (a0 : ByteArray) : Option (List Int × Int × List ByteArray × Bool × Int × Int × Int) := if a0.toList = ([] : List UInt8) then (letterboxref15_Parse.j0 k a0 true) else (if 0 < (a0.size : Int) then (letterboxref15_Parse.j0 k a0 ((bt a0 0) != 91)) else (none))
theorem letterboxref15_Parse.mono_l : ∀ k, (∀ y0 y1, LeO (letterboxref15_Parse.j0 k y0 y1) (letterboxref15_Parse.j0 (k + 1) y0 y1)) ∧ (∀ y0 y1, LeO (letterboxref15_Parse.j1 k y0 y1) (letterboxref15_Parse.j1 (k + 1) y0 y1)) ∧ (∀ y0 y1 y2 y3 y4 y5 y6, LeO (letterboxref15_Parse.j3 k y0 y1 y2 y3 y4 y5 y6) (letterboxref15_Parse.j3 (k + 1) y0 y1 y2 y3 y4 y5 y6)) ∧ (∀ y0 y1 y2 y3 y4 y5 y6 y7 y8, LeO (letterboxref15_Parse.j4 k y0 y1 y2 y3 y4 y5 y6 y7 y8) (letterboxref15_Parse.j4 (k + 1) y0 y1 y2 y3 y4 y5 y6 y7 y8)) ∧ (∀ y0 y1 y2 y3 y4 y5 y6 y7 y8, LeO (letterboxref15_Parse.j2 k y0 y1 y2 y3 y4 y5 y6 y7 y8) (letterboxref15_Parse.j2 (k + 1) y0 y1 y2 y3 y4 y5 y6 y7 y8))
 | 0 => ⟨fun _ _ r h => by simp [letterboxref15_Parse.j0] at h, fun _ _ r h => by simp [letterboxref15_Parse.j1] at h, fun _ _ _ _ _ _ _ r h => by simp [letterboxref15_Parse.j3] at h, fun _ _ _ _ _ _ _ _ _ r h => by simp [letterboxref15_Parse.j4] at h, fun _ _ _ _ _ _ _ _ _ r h => by simp [letterboxref15_Parse.j2] at h⟩
 | k + 1 => by
  obtain ⟨ih0, ih1, ih2, ih3, ih4⟩ := letterboxref15_Parse.mono_l k
  refine ⟨?_, ?_, ?_, ?_, ?_⟩
  ·intro y0 y1
   unfold letterboxref15_Parse.j0
   repeat' first
   | (with_reducible exact ih0 _ _)
   | (with_reducible exact ih1 _ _)
   | (with_reducible exact ih2 _ _ _ _ _ _ _)
   | (with_reducible exact ih3 _ _ _ _ _ _ _ _ _)
   | (with_reducible exact ih4 _ _ _ _ _ _ _ _ _)
   | (with_reducible exact letterboxref01_Number.mono _ _)
   | (with_reducible exact letterboxref15_Check.mono _ _ _ _ _ _ _)
   | (with_reducible exact letterboxref15_head.mono _ _ _)
   | (with_reducible exact letterboxref15_last.mono _ _ _)
   | (with_reducible exact letterboxref15_names.mono _ _)
   | (with_reducible exact letterboxref15_what.mono _ _)
   | (with_reducible exact LeO.refl _)
   | (with_reducible exact LeO.none _)
   | (with_reducible refine LeO.ite ?_ ?_)
   | (with_reducible refine LeO.bind ?_ (fun _ => ?_))
   | exact ih0 _ _
   | exact ih1 _ _
   | exact ih2 _ _ _ _ _ _ _
   | exact ih3 _ _ _ _ _ _ _ _ _
   | exact ih4 _ _ _ _ _ _ _ _ _
   | exact letterboxref01_Number.mono _ _
   | exact letterboxref15_Check.mono _ _ _ _ _ _ _
   | exact letterboxref15_head.mono _ _ _
   | exact letterboxref15_last.mono _ _ _
   | exact letterboxref15_names.mono _ _
   | exact letterboxref15_what.mono _ _
   | exact LeO.none _
   | refine LeO.ite ?_ ?_
   | refine LeO.bind ?_ (fun _ => ?_)
  ·intro y0 y1
   unfold letterboxref15_Parse.j1
   repeat' first
   | (with_reducible exact ih0 _ _)
   | (with_reducible exact ih1 _ _)
   | (with_reducible exact ih2 _ _ _ _ _ _ _)
   | (with_reducible exact ih3 _ _ _ _ _ _ _ _ _)
   | (with_reducible exact ih4 _ _ _ _ _ _ _ _ _)
   | (with_reducible exact letterboxref01_Number.mono _ _)
   | (with_reducible exact letterboxref15_Check.mono _ _ _ _ _ _ _)
   | (with_reducible exact letterboxref15_head.mono _ _ _)
   | (with_reducible exact letterboxref15_last.mono _ _ _)
   | (with_reducible exact letterboxref15_names.mono _ _)
   | (with_reducible exact letterboxref15_what.mono _ _)
   | (with_reducible exact LeO.refl _)
   | (with_reducible exact LeO.none _)
   | (with_reducible refine LeO.ite ?_ ?_)
   | (with_reducible refine LeO.bind ?_ (fun _ => ?_))
   | exact ih0 _ _
   | exact ih1 _ _
   | exact ih2 _ _ _ _ _ _ _
   | exact ih3 _ _ _ _ _ _ _ _ _
   | exact ih4 _ _ _ _ _ _ _ _ _
   | exact letterboxref01_Number.mono _ _
   | exact letterboxref15_Check.mono _ _ _ _ _ _ _
   | exact letterboxref15_head.mono _ _ _
   | exact letterboxref15_last.mono _ _ _
   | exact letterboxref15_names.mono _ _
   | exact letterboxref15_what.mono _ _
   | exact LeO.none _
   | refine LeO.ite ?_ ?_
   | refine LeO.bind ?_ (fun _ => ?_)
  ·intro y0 y1 y2 y3 y4 y5 y6
   unfold letterboxref15_Parse.j3
   repeat' first
   | (with_reducible exact ih0 _ _)
   | (with_reducible exact ih1 _ _)
   | (with_reducible exact ih2 _ _ _ _ _ _ _)
   | (with_reducible exact ih3 _ _ _ _ _ _ _ _ _)
   | (with_reducible exact ih4 _ _ _ _ _ _ _ _ _)
   | (with_reducible exact letterboxref01_Number.mono _ _)
   | (with_reducible exact letterboxref15_Check.mono _ _ _ _ _ _ _)
   | (with_reducible exact letterboxref15_head.mono _ _ _)
   | (with_reducible exact letterboxref15_last.mono _ _ _)
   | (with_reducible exact letterboxref15_names.mono _ _)
   | (with_reducible exact letterboxref15_what.mono _ _)
   | (with_reducible exact LeO.refl _)
   | (with_reducible exact LeO.none _)
   | (with_reducible refine LeO.ite ?_ ?_)
   | (with_reducible refine LeO.bind ?_ (fun _ => ?_))
   | exact ih0 _ _
   | exact ih1 _ _
   | exact ih2 _ _ _ _ _ _ _
   | exact ih3 _ _ _ _ _ _ _ _ _
   | exact ih4 _ _ _ _ _ _ _ _ _
   | exact letterboxref01_Number.mono _ _
   | exact letterboxref15_Check.mono _ _ _ _ _ _ _
   | exact letterboxref15_head.mono _ _ _
   | exact letterboxref15_last.mono _ _ _
   | exact letterboxref15_names.mono _ _
   | exact letterboxref15_what.mono _ _
   | exact LeO.none _
   | refine LeO.ite ?_ ?_
   | refine LeO.bind ?_ (fun _ => ?_)
  ·intro y0 y1 y2 y3 y4 y5 y6 y7 y8
   unfold letterboxref15_Parse.j4
   repeat' first
   | (with_reducible exact ih0 _ _)
   | (with_reducible exact ih1 _ _)
   | (with_reducible exact ih2 _ _ _ _ _ _ _)
   | (with_reducible exact ih3 _ _ _ _ _ _ _ _ _)
   | (with_reducible exact ih4 _ _ _ _ _ _ _ _ _)
   | (with_reducible exact letterboxref01_Number.mono _ _)
   | (with_reducible exact letterboxref15_Check.mono _ _ _ _ _ _ _)
   | (with_reducible exact letterboxref15_head.mono _ _ _)
   | (with_reducible exact letterboxref15_last.mono _ _ _)
   | (with_reducible exact letterboxref15_names.mono _ _)
   | (with_reducible exact letterboxref15_what.mono _ _)
   | (with_reducible exact LeO.refl _)
   | (with_reducible exact LeO.none _)
   | (with_reducible refine LeO.ite ?_ ?_)
   | (with_reducible refine LeO.bind ?_ (fun _ => ?_))
   | exact ih0 _ _
   | exact ih1 _ _
   | exact ih2 _ _ _ _ _ _ _
   | exact ih3 _ _ _ _ _ _ _ _ _
   | exact ih4 _ _ _ _ _ _ _ _ _
   | exact letterboxref01_Number.mono _ _
   | exact letterboxref15_Check.mono _ _ _ _ _ _ _
   | exact letterboxref15_head.mono _ _ _
   | exact letterboxref15_last.mono _ _ _
   | exact letterboxref15_names.mono _ _
   | exact letterboxref15_what.mono _ _
   | exact LeO.none _
   | refine LeO.ite ?_ ?_
   | refine LeO.bind ?_ (fun _ => ?_)
  ·intro y0 y1 y2 y3 y4 y5 y6 y7 y8
   unfold letterboxref15_Parse.j2
   repeat' first
   | (with_reducible exact ih0 _ _)
   | (with_reducible exact ih1 _ _)
   | (with_reducible exact ih2 _ _ _ _ _ _ _)
   | (with_reducible exact ih3 _ _ _ _ _ _ _ _ _)
   | (with_reducible exact ih4 _ _ _ _ _ _ _ _ _)
   | (with_reducible exact letterboxref01_Number.mono _ _)
   | (with_reducible exact letterboxref15_Check.mono _ _ _ _ _ _ _)
   | (with_reducible exact letterboxref15_head.mono _ _ _)
   | (with_reducible exact letterboxref15_last.mono _ _ _)
   | (with_reducible exact letterboxref15_names.mono _ _)
   | (with_reducible exact letterboxref15_what.mono _ _)
   | (with_reducible exact LeO.refl _)
   | (with_reducible exact LeO.none _)
   | (with_reducible refine LeO.ite ?_ ?_)
   | (with_reducible refine LeO.bind ?_ (fun _ => ?_))
   | exact ih0 _ _
   | exact ih1 _ _
   | exact ih2 _ _ _ _ _ _ _
   | exact ih3 _ _ _ _ _ _ _ _ _
   | exact ih4 _ _ _ _ _ _ _ _ _
   | exact letterboxref01_Number.mono _ _
   | exact letterboxref15_Check.mono _ _ _ _ _ _ _
   | exact letterboxref15_head.mono _ _ _
   | exact letterboxref15_last.mono _ _ _
   | exact letterboxref15_names.mono _ _
   | exact letterboxref15_what.mono _ _
   | exact LeO.none _
   | refine LeO.ite ?_ ?_
   | refine LeO.bind ?_ (fun _ => ?_)
theorem letterboxref15_Parse.mono : ∀ a0 k, LeO (letterboxref15_Parse.f k a0) (letterboxref15_Parse.f (k + 1) a0) := by
 intro a0 k
 obtain ⟨ih0, ih1, ih2, ih3, ih4⟩ := letterboxref15_Parse.mono_l k
 unfold letterboxref15_Parse.f
 repeat' first
   | (with_reducible exact ih0 _ _)
   | (with_reducible exact ih1 _ _)
   | (with_reducible exact ih2 _ _ _ _ _ _ _)
   | (with_reducible exact ih3 _ _ _ _ _ _ _ _ _)
   | (with_reducible exact ih4 _ _ _ _ _ _ _ _ _)
   | (with_reducible exact letterboxref01_Number.mono _ _)
   | (with_reducible exact letterboxref15_Check.mono _ _ _ _ _ _ _)
   | (with_reducible exact letterboxref15_head.mono _ _ _)
   | (with_reducible exact letterboxref15_last.mono _ _ _)
   | (with_reducible exact letterboxref15_names.mono _ _)
   | (with_reducible exact letterboxref15_what.mono _ _)
   | (with_reducible exact LeO.refl _)
   | (with_reducible exact LeO.none _)
   | (with_reducible refine LeO.ite ?_ ?_)
   | (with_reducible refine LeO.bind ?_ (fun _ => ?_))
   | exact ih0 _ _
   | exact ih1 _ _
   | exact ih2 _ _ _ _ _ _ _
   | exact ih3 _ _ _ _ _ _ _ _ _
   | exact ih4 _ _ _ _ _ _ _ _ _
   | exact letterboxref01_Number.mono _ _
   | exact letterboxref15_Check.mono _ _ _ _ _ _ _
   | exact letterboxref15_head.mono _ _ _
   | exact letterboxref15_last.mono _ _ _
   | exact letterboxref15_names.mono _ _
   | exact letterboxref15_what.mono _ _
   | exact LeO.none _
   | refine LeO.ite ?_ ?_
   | refine LeO.bind ?_ (fun _ => ?_)
set_option maxHeartbeats 8000000 in
set_option maxRecDepth 100000 in
theorem letterboxref15_Parse.calls (k : Nat) (a0 : ByteArray) (r1 : List Int) (r2 : Int) (r3 : List ByteArray) (r4 : Bool) (r5 : Int) (r6 : Int) (r7 : Int) (w : World) (h : letterboxref15_Parse.f k a0 = some (r1, r2, r3, r4, r5, r6, r7)) :
  Calls Tryd.prog 9 #[.string a0] w fun e w' => ∃ v0_ v2_ : Value, e = .returned (.tuple #[.agg #[v0_, .int .i64 r2, v2_, .bool r4, .int .i64 r5, .int .i64 r6], .int .i64 r7]) ∧ Kd.R (Kd.int .i64) 3 w' w.heap.size (fun _ => True) v0_ r1 ∧ Kd.R Kd.string 9 w' w.heap.size (fun _ => True) v2_ r3 ∧ Below w.heap.size w w' := by
 have hu30 := Tryd.underlying30
 have HB := Aside0.mk (Below.refl w.heap.size w)
 have H : (if a0.toList = ([] : List UInt8) then (letterboxref15_Parse.j0 k a0 true) else (if 0 < (a0.size : Int) then (letterboxref15_Parse.j0 k a0 ((bt a0 0) != 91)) else (none))) = some (r1, r2, r3, r4, r5, r6, r7) := h
 clear h
 have HC2 := Aside0.mk H
 clear H
 go_enter Tryd.func9, Tryd.ntmps9
 go_upto_region 1 with (first | ((with_reducible refine gate_dst (N := 2) rfl ?_); (try (refine gate_guard (by rfl) ?_; dsimp only)); refine box_event ?hg (N := 2) ?hd (cs := #[.slice none 0 0, .int .i64 0, .slice none 0 0, .bool false, .int .i64 0, .int .i64 0]) (t := 30) ?hr ?_; (case hd => rfl); (case hg => rfl); (case hr => first | (go_simp; done) | (go_simp; rfl)); intro gb247 hg w3 hbox hb; have n0_ := Aside0.mk (below_step (qb_ HB.out) hb); have n1_ := Aside0.mk (hbox); have n2_ := Aside0.mk ((by rw [hg]; exact (below_size (qb_ HB.out)) : w.heap.size ≤ gb247)); have n3_ := Aside0.mk ((by rw [hg]; exact (below_size (qb_ HB.out)) : w.heap.size ≤ gb247)); clear HB; have HB := n0_; have BK247 := n1_; have GW247 := n2_; have GE247 := n3_; clear n0_ n1_ n2_ n3_; clear hb hbox hg))
 (try simp only [Act.put, List.setIfInBounds_toArray, List.set_cons_zero, List.set_cons_succ])
 go_cut [28] (fun v28 wc => ∃ (kq : Nat) (x28_1 : Bool), v28 = .bool x28_1 ∧ Aside0 (letterboxref15_Parse.j0 kq a0 x28_1 = some (r1, r2, r3, r4, r5, r6, r7)) ∧ Aside0 (kq ≤ k) ∧ Aside0 (wc.heap[gb247]? = some (.cells #[(.slice none 0 0), .int .i64 0, (.slice none 0 0), .bool false, .int .i64 0, .int .i64 0] 30 (0, 0))) ∧ Aside0 (Below w.heap.size w wc))
 case first =>
  have H := HC2.out
  clear HC2
  by_cases c4 : a0.toList = ([] : List UInt8)
  ·rw [if_pos c4] at H
   have c4b0 : (a0.toList == ([] : List UInt8)) = true := beq_iff_eq.mpr c4
   have c4b5 : a0.toList.isEmpty = true := List.isEmpty_iff.mpr c4
   have c4b1 : (a0.toList != ([] : List UInt8)) = false := bne_eq_false_iff_eq.mpr c4
   clear c4
   (first | rw [c4b0] | rw [c4b5] | (simp only [i64_w, i32_w]; rw [c4b0]) | skip)
   have H' := Aside0.mk H
   clear H
   go_wp2
   go_meet
   case rel => exact ⟨_, (true), qr_, H', ⟨by first | omega | exact Nat.le_refl _⟩, ⟨qk_ BK247.out⟩, ⟨qb_ HB.out⟩⟩
  ·rw [if_neg c4] at H
   have c4b0 : (a0.toList == ([] : List UInt8)) = false := beq_eq_false_iff_ne.mpr c4
   have c4b5 : a0.toList.isEmpty = false := List.isEmpty_eq_false_iff.mpr c4
   have c4b1 : (a0.toList != ([] : List UInt8)) = true := bne_iff_ne.mpr c4
   (first | rw [c4b0] | rw [c4b5] | (simp only [i64_w, i32_w]; rw [c4b0]) | skip)
   by_cases c5 : 0 < (a0.size : Int)
   ·rw [if_pos c5] at H
    have c5b0 : decide (0 < (a0.size : Int)) = true := decide_eq_true c5
    have c5b1 : decide (0 < a0.size) = true := decide_eq_true (by omega)
    clear c5
    have H' := Aside0.mk H
    clear H
    have p6 : 0 ≤ (0 : Int) := (by omega)
    have q6 : 0 < a0.size := (by have : (0 : Int) < (a0.size : Int) := qd_; omega)
    have hx6 : ∀ h : 0 < a0.size, ((a0[0]'h).toNat : Int) = bt a0 0 := bt_at a0 0
    clear p6
    have qi6 : (0 < (a0.size : Int)) = True := eq_true (qd_)
    replace q6 := eq_true q6
    go_wp2
    go_meet
    case rel => exact ⟨_, (((bt a0 0) != 91)), qr_, H', ⟨by first | omega | exact Nat.le_refl _⟩, ⟨qk_ BK247.out⟩, ⟨qb_ HB.out⟩⟩
   ·rw [if_neg c5] at H
    exact absurd H (by simp)
 case rest =>
  clear HC2
  obtain ⟨kq, x28_1, rfl, HA, HJ1, BK247, HB⟩ := hcut
  cases kq with
  | zero => exact absurd HA.out (by simp [letterboxref15_Parse.j0])
  | succ kj1 =>
   have H := HA.out
   clear HA
   simp only [letterboxref15_Parse.j0] at H
   by_cases c7 : x28_1 = true
   ·subst c7
    have H1 : (some (([] : List Int), 0, ([] : List ByteArray), false, 0, 0, 50)) = some (r1, r2, r3, r4, r5, r6, r7) := by rw [if_pos rfl] at H; exact H
    clear H
    have H := H1
    clear H1
    simp only [Option.some.injEq, Prod.mk.injEq] at H
    obtain ⟨rfl, rfl, rfl, rfl, rfl, rfl, rfl⟩ := H
    obtain ⟨hcz8_0, hcz8_1, hcz8_2, hcz8_3, hcz8_4, hcz8_5, hfz8_0, hfz8_1, hfz8_2, hfz8_3, hfz8_4, hfz8_5⟩ := cz6_ BK247.out
    go_wp2
    refine bodyPost_ret (results_ct rfl _ _ gb247 30 #[.slice none 0 0, .int .i64 0, .slice none 0 0, .bool false, .int .i64 0, .int .i64 0] (0, 0) _ rfl (qs6_ (qk_ BK247.out)) Tryd.underlying30 rfl (by kernel_rfl)) rfl ?_
    exact ⟨_, _, qw_, qn_, qn_, qb_ HB.out⟩
   ·replace c7 := Bool.eq_false_iff.mpr c7
    subst c7
    have H1 : ((letterboxref15_last.f kj1 a0 93).bind fun t248 => (if t248 < 0 then (some (([] : List Int), 0, ([] : List ByteArray), false, 0, 0, 50)) else (if 1 ≤ t248 then (if t248 ≤ (a0.size : Int) then (if 0 ≤ (wrap64 (t248 + 1)) then (if (wrap64 (t248 + 1)) ≤ (a0.size : Int) then (if (a0.extract ((wrap64 (t248 + 1)) : Int).toNat a0.size).toList = ([] : List UInt8) then (letterboxref15_Parse.j1 kj1 (a0.extract 1 (t248 : Int).toNat) (a0.extract ((wrap64 (t248 + 1)) : Int).toNat a0.size)) else (if ((a0.extract ((wrap64 (t248 + 1)) : Int).toNat a0.size).size : Int) < 5 then (some (([] : List Int), 0, ([] : List ByteArray), false, 0, 0, 50)) else (if 0 < ((a0.extract ((wrap64 (t248 + 1)) : Int).toNat a0.size).size : Int) then (if (bt (a0.extract ((wrap64 (t248 + 1)) : Int).toNat a0.size) 0) = 60 then (if 0 ≤ (wrap64 (((a0.extract ((wrap64 (t248 + 1)) : Int).toNat a0.size).size : Int) - 1)) then (if (wrap64 (((a0.extract ((wrap64 (t248 + 1)) : Int).toNat a0.size).size : Int) - 1)) < ((a0.extract ((wrap64 (t248 + 1)) : Int).toNat a0.size).size : Int) then (if (bt (a0.extract ((wrap64 (t248 + 1)) : Int).toNat a0.size) (wrap64 (((a0.extract ((wrap64 (t248 + 1)) : Int).toNat a0.size).size : Int) - 1))) = 62 then (letterboxref15_Parse.j1 kj1 (a0.extract 1 (t248 : Int).toNat) (a0.extract ((wrap64 (t248 + 1)) : Int).toNat a0.size)) else (some (([] : List Int), 0, ([] : List ByteArray), false, 0, 0, 50))) else (none)) else (none)) else (some (([] : List Int), 0, ([] : List ByteArray), false, 0, 0, 50))) else (none)))) else (none)) else (none)) else (none)) else (none)))) = some (r1, r2, r3, r4, r5, r6, r7) := by rw [if_neg (show ¬ (false = true) by decide)] at H; exact H
    clear H
    have H := H1
    clear H1
    replace H := Option.bind_eq_some_iff.mp H
    obtain ⟨t248, A90, H⟩ := H
    replace H : (if t248 < 0 then (some (([] : List Int), 0, ([] : List ByteArray), false, 0, 0, 50)) else (if 1 ≤ t248 then (if t248 ≤ (a0.size : Int) then (if 0 ≤ (wrap64 (t248 + 1)) then (if (wrap64 (t248 + 1)) ≤ (a0.size : Int) then (if (a0.extract ((wrap64 (t248 + 1)) : Int).toNat a0.size).toList = ([] : List UInt8) then (letterboxref15_Parse.j1 kj1 (a0.extract 1 (t248 : Int).toNat) (a0.extract ((wrap64 (t248 + 1)) : Int).toNat a0.size)) else (if ((a0.extract ((wrap64 (t248 + 1)) : Int).toNat a0.size).size : Int) < 5 then (some (([] : List Int), 0, ([] : List ByteArray), false, 0, 0, 50)) else (if 0 < ((a0.extract ((wrap64 (t248 + 1)) : Int).toNat a0.size).size : Int) then (if (bt (a0.extract ((wrap64 (t248 + 1)) : Int).toNat a0.size) 0) = 60 then (if 0 ≤ (wrap64 (((a0.extract ((wrap64 (t248 + 1)) : Int).toNat a0.size).size : Int) - 1)) then (if (wrap64 (((a0.extract ((wrap64 (t248 + 1)) : Int).toNat a0.size).size : Int) - 1)) < ((a0.extract ((wrap64 (t248 + 1)) : Int).toNat a0.size).size : Int) then (if (bt (a0.extract ((wrap64 (t248 + 1)) : Int).toNat a0.size) (wrap64 (((a0.extract ((wrap64 (t248 + 1)) : Int).toNat a0.size).size : Int) - 1))) = 62 then (letterboxref15_Parse.j1 kj1 (a0.extract 1 (t248 : Int).toNat) (a0.extract ((wrap64 (t248 + 1)) : Int).toNat a0.size)) else (some (([] : List Int), 0, ([] : List ByteArray), false, 0, 0, 50))) else (none)) else (none)) else (some (([] : List Int), 0, ([] : List ByteArray), false, 0, 0, 50))) else (none)))) else (none)) else (none)) else (none)) else (none))) = some (r1, r2, r3, r4, r5, r6, r7) := H
    have A9 := Aside0.mk A90
    clear A90
    by_cases c10 : t248 < 0
    ·rw [if_pos c10] at H
     have c10b0 : decide (t248 < 0) = true := decide_eq_true c10
     clear c10
     simp only [Option.some.injEq, Prod.mk.injEq] at H
     obtain ⟨rfl, rfl, rfl, rfl, rfl, rfl, rfl⟩ := H
     go_wp2_with (first | ((with_reducible refine gate_callee (f := 23) rfl ?_); refine goesL_ (some 31) rfl rfl Tryd.func23 (by kernel_rfl) rfl #[.string a0, .int .u8 93] rfl qa_ ?_; (with_reducible refine (letterboxref15_last.calls kj1 a0 93 t248 _ A9.out).mono ?_); rintro e w' ⟨rfl, ⟨nd, rfl⟩⟩; refine ⟨_, rfl, ?_⟩; (try (rw [drewN_self wc]; generalize hq_ : World.drewN wc _ = wc; have n0_ : Aside0 (wc.heap[gb247]? = some (.cells #[.slice none 0 0, .int .i64 0, .slice none 0 0, .bool false, .int .i64 0, .int .i64 0] 30 (0, 0))) := ⟨by rw [← hq_]; exact (qk_ BK247.out)⟩; have n1_ : Aside0 (Below w.heap.size w wc) := ⟨by rw [← hq_]; exact (qb_ HB.out)⟩; clear BK247 HB hq_; have BK247 := n0_; have HB := n1_; clear n0_ n1_; (try have hq0_ := cellS50_0 HI0.out.1); (try have hq1_ := cellS50_1 HI0.out.1); (try have hq2_ := blk_frozen HI0.out.1 0); (try have hq3_ := blk_frozen HI0.out.1 1))); have hcz11_0 : wc.cell? ⟨gb247, 0, none⟩ = some (.slice none 0 0) := (blk_cell BK247.out 0).trans rfl; have hcz11_1 : wc.cell? ⟨gb247, 1, none⟩ = some (.int .i64 0) := (blk_cell BK247.out 1).trans rfl; have hcz11_2 : wc.cell? ⟨gb247, 2, none⟩ = some (.slice none 0 0) := (blk_cell BK247.out 2).trans rfl; have hcz11_3 : wc.cell? ⟨gb247, 3, none⟩ = some (.bool false) := (blk_cell BK247.out 3).trans rfl; have hcz11_4 : wc.cell? ⟨gb247, 4, none⟩ = some (.int .i64 0) := (blk_cell BK247.out 4).trans rfl; have hcz11_5 : wc.cell? ⟨gb247, 5, none⟩ = some (.int .i64 0) := (blk_cell BK247.out 5).trans rfl; have hfz11_0 := blk_frozen BK247.out 0; have hfz11_1 := blk_frozen BK247.out 1; have hfz11_2 := blk_frozen BK247.out 2; have hfz11_3 := blk_frozen BK247.out 3; have hfz11_4 := blk_frozen BK247.out 4; have hfz11_5 := blk_frozen BK247.out 5))
     refine bodyPost_ret (results_ct rfl _ _ gb247 30 #[.slice none 0 0, .int .i64 0, .slice none 0 0, .bool false, .int .i64 0, .int .i64 0] (0, 0) _ rfl (qs6_ (qk_ BK247.out)) Tryd.underlying30 rfl (by kernel_rfl)) rfl ?_
     exact ⟨_, _, qw_, qn_, qn_, qb_ HB.out⟩
    ·rw [if_neg c10] at H
     have c10b0 : decide (t248 < 0) = false := decide_eq_false c10
     clear c10
     by_cases c12 : 1 ≤ t248
     ·rw [if_pos c12] at H
      have c12b0 := eq_true c12
      have c12b1 : decide (1 ≤ t248) = true := decide_eq_true c12
      clear c12
      by_cases c13 : t248 ≤ (a0.size : Int)
      ·rw [if_pos c13] at H
       have c13b0 := eq_true c13
       have c13b1 : decide (t248 ≤ (a0.size : Int)) = true := decide_eq_true c13
       clear c13
       obtain ⟨ji14, hji14⟩ : ∃ j_ : Int, (wrap64 (t248 + 1)) = j_ := ⟨_, rfl⟩
       replace H : (if 0 ≤ (ji14) then (if (ji14) ≤ (a0.size : Int) then (if (a0.extract ((ji14) : Int).toNat a0.size).toList = ([] : List UInt8) then (letterboxref15_Parse.j1 kj1 (a0.extract 1 (t248 : Int).toNat) (a0.extract ((ji14) : Int).toNat a0.size)) else (if ((a0.extract ((ji14) : Int).toNat a0.size).size : Int) < 5 then (some (([] : List Int), 0, ([] : List ByteArray), false, 0, 0, 50)) else (if 0 < ((a0.extract ((ji14) : Int).toNat a0.size).size : Int) then (if (bt (a0.extract ((ji14) : Int).toNat a0.size) 0) = 60 then (if 0 ≤ (wrap64 (((a0.extract ((ji14) : Int).toNat a0.size).size : Int) - 1)) then (if (wrap64 (((a0.extract ((ji14) : Int).toNat a0.size).size : Int) - 1)) < ((a0.extract ((ji14) : Int).toNat a0.size).size : Int) then (if (bt (a0.extract ((ji14) : Int).toNat a0.size) (wrap64 (((a0.extract ((ji14) : Int).toNat a0.size).size : Int) - 1))) = 62 then (letterboxref15_Parse.j1 kj1 (a0.extract 1 (t248 : Int).toNat) (a0.extract ((ji14) : Int).toNat a0.size)) else (some (([] : List Int), 0, ([] : List ByteArray), false, 0, 0, 50))) else (none)) else (none)) else (some (([] : List Int), 0, ([] : List ByteArray), false, 0, 0, 50))) else (none)))) else (none)) else (none)) = some (r1, r2, r3, r4, r5, r6, r7) := by first | (rw [hji14] at H; exact H) | (simp only [hji14] at H ⊢; exact H)
       (try rw [hji14] at A9)
       have hji14w : (IntKind.i64.wrap (t248 + 1)) = ji14 := (i64_w _).trans hji14
       by_cases c15 : 0 ≤ (ji14)
       ·rw [if_pos c15] at H
        have c15b0 := eq_true c15
        have c15b1 : decide (0 ≤ (ji14)) = true := decide_eq_true c15
        clear c15
        by_cases c16 : (ji14) ≤ (a0.size : Int)
        ·rw [if_pos c16] at H
         have c16b0 := eq_true c16
         have c16b1 : decide ((ji14) ≤ (a0.size : Int)) = true := decide_eq_true c16
         clear c16
         have HC17 := Aside0.mk H
         clear H
         go_upto_if 43 with (first | ((with_reducible refine gate_callee (f := 23) rfl ?_); refine goesL_ (some 31) rfl rfl Tryd.func23 (by kernel_rfl) rfl #[.string a0, .int .u8 93] rfl qa_ ?_; (with_reducible refine (letterboxref15_last.calls kj1 a0 93 t248 _ A9.out).mono ?_); rintro e w' ⟨rfl, ⟨nd, rfl⟩⟩; refine ⟨_, rfl, ?_⟩))
         (try simp only [Act.put, List.setIfInBounds_toArray, List.set_cons_zero, List.set_cons_succ])
         go_cut [] (fun wc => ∃ (kq : Nat) (x248001_16 : Int) (x248003_16 : Bool) (x248004_16 : Int) (x248005_16 : Int), Aside0 (letterboxref15_Parse.j1 kq (a0.extract 1 (t248 : Int).toNat) (a0.extract ((ji14) : Int).toNat a0.size) = some (r1, r2, r3, r4, r5, r6, r7)) ∧ Aside0 (kq ≤ kj1) ∧ Aside0 (wc.heap[gb247]? = some (.cells #[(.slice none 0 0), .int .i64 x248001_16, (.slice none 0 0), .bool x248003_16, .int .i64 x248004_16, .int .i64 x248005_16] 30 (0, 0))) ∧ Aside0 (Below w.heap.size w wc))
         case first =>
          have H := HC17.out
          clear HC17
          by_cases c18 : (a0.extract ((ji14) : Int).toNat a0.size).toList = ([] : List UInt8)
          ·rw [if_pos c18] at H
           have c18b0 : ((a0.extract ((ji14) : Int).toNat a0.size).toList == ([] : List UInt8)) = true := beq_iff_eq.mpr c18
           have c18b5 : (a0.extract ((ji14) : Int).toNat a0.size).toList.isEmpty = true := List.isEmpty_iff.mpr c18
           have c18b1 : ((a0.extract ((ji14) : Int).toNat a0.size).toList != ([] : List UInt8)) = false := bne_eq_false_iff_eq.mpr c18
           clear c18
           (first | rw [c18b0] | rw [c18b5] | (simp only [i64_w, i32_w]; rw [c18b0]) | skip)
           have H' := Aside0.mk H
           clear H
           go_wp2
           go_meet
           case rel => exact ⟨_, (0), (false), (0), (0), (by first | exact H' | (rw [hji14]; exact H')), ⟨by have := HJ1.out; first | omega | exact Nat.le_refl _⟩, ⟨qk_ BK247.out⟩, ⟨qb_ HB.out⟩⟩
          ·rw [if_neg c18] at H
           have c18b0 : ((a0.extract ((ji14) : Int).toNat a0.size).toList == ([] : List UInt8)) = false := beq_eq_false_iff_ne.mpr c18
           have c18b5 : (a0.extract ((ji14) : Int).toNat a0.size).toList.isEmpty = false := List.isEmpty_eq_false_iff.mpr c18
           have c18b1 : ((a0.extract ((ji14) : Int).toNat a0.size).toList != ([] : List UInt8)) = true := bne_iff_ne.mpr c18
           (first | rw [c18b0] | rw [c18b5] | (simp only [i64_w, i32_w]; rw [c18b0]) | skip)
           by_cases c19 : ((a0.extract ((ji14) : Int).toNat a0.size).size : Int) < 5
           ·rw [if_pos c19] at H
            have c19b0 : decide (((a0.extract ((ji14) : Int).toNat a0.size).size : Int) < 5) = true := decide_eq_true c19
            have c19b1 : decide ((a0.extract ((ji14) : Int).toNat a0.size).size < 5) = true := decide_eq_true (by omega)
            clear c19
            simp only [Option.some.injEq, Prod.mk.injEq] at H
            obtain ⟨rfl, rfl, rfl, rfl, rfl, rfl, rfl⟩ := H
            obtain ⟨hcz20_0, hcz20_1, hcz20_2, hcz20_3, hcz20_4, hcz20_5, hfz20_0, hfz20_1, hfz20_2, hfz20_3, hfz20_4, hfz20_5⟩ := cz6_ BK247.out
            go_wp2
            refine bodyPost_ret (results_ct rfl _ _ gb247 30 #[.slice none 0 0, .int .i64 0, .slice none 0 0, .bool false, .int .i64 0, .int .i64 0] (0, 0) _ rfl (qs6_ (qk_ BK247.out)) Tryd.underlying30 rfl (by kernel_rfl)) rfl ?_
            exact ⟨_, _, by first | rfl | (simp [errW_none, errW_some] <;> rfl) | (simp only [← hji14]; first | rfl | (simp [errW_none, errW_some] <;> rfl)) | (simp [*, errW_none, errW_some] <;> rfl), qn_, qn_, qb_ HB.out⟩
           ·rw [if_neg c19] at H
            have c19b0 : decide (((a0.extract ((ji14) : Int).toNat a0.size).size : Int) < 5) = false := decide_eq_false c19
            have c19b1 : decide ((a0.extract ((ji14) : Int).toNat a0.size).size < 5) = false := decide_eq_false (by omega)
            clear c19
            by_cases c21 : 0 < ((a0.extract ((ji14) : Int).toNat a0.size).size : Int)
            ·rw [if_pos c21] at H
             have c21b0 : decide (0 < ((a0.extract ((ji14) : Int).toNat a0.size).size : Int)) = true := decide_eq_true c21
             have c21b1 : decide (0 < (a0.extract ((ji14) : Int).toNat a0.size).size) = true := decide_eq_true (by omega)
             clear c21
             by_cases c23 : (bt (a0.extract ((ji14) : Int).toNat a0.size) 0) = 60
             ·rw [if_pos c23] at H
              have c23b0 : ((bt (a0.extract ((ji14) : Int).toNat a0.size) 0) == 60) = true := beq_iff_eq.mpr c23
              have c23b1 : ((bt (a0.extract ((ji14) : Int).toNat a0.size) 0) != 60) = false := bne_eq_false_iff_eq.mpr c23
              clear c23
              obtain ⟨ji24, hji24⟩ : ∃ j_ : Int, (wrap64 (((a0.extract ((ji14) : Int).toNat a0.size).size : Int) - 1)) = j_ := ⟨_, rfl⟩
              replace H : (if 0 ≤ (ji24) then (if (ji24) < ((a0.extract ((ji14) : Int).toNat a0.size).size : Int) then (if (bt (a0.extract ((ji14) : Int).toNat a0.size) (ji24)) = 62 then (letterboxref15_Parse.j1 kj1 (a0.extract 1 (t248 : Int).toNat) (a0.extract ((ji14) : Int).toNat a0.size)) else (some (([] : List Int), 0, ([] : List ByteArray), false, 0, 0, 50))) else (none)) else (none)) = some (r1, r2, r3, r4, r5, r6, r7) := by first | (rw [hji24] at H; exact H) | (simp only [hji24] at H ⊢; exact H)
              have hji24w : (IntKind.i64.wrap (((a0.extract ((ji14) : Int).toNat a0.size).size : Int) - 1)) = ji24 := (i64_w _).trans hji24
              by_cases c25 : 0 ≤ (ji24)
              ·rw [if_pos c25] at H
               have c25b0 : decide (0 ≤ (ji24)) = true := decide_eq_true c25
               clear c25
               by_cases c26 : (ji24) < ((a0.extract ((ji14) : Int).toNat a0.size).size : Int)
               ·rw [if_pos c26] at H
                have c26b0 : decide ((ji24) < ((a0.extract ((ji14) : Int).toNat a0.size).size : Int)) = true := decide_eq_true c26
                clear c26
                by_cases c28 : (bt (a0.extract ((ji14) : Int).toNat a0.size) (ji24)) = 62
                ·rw [if_pos c28] at H
                 have c28b0 : ((bt (a0.extract ((ji14) : Int).toNat a0.size) (ji24)) == 62) = true := beq_iff_eq.mpr c28
                 have c28b1 : ((bt (a0.extract ((ji14) : Int).toNat a0.size) (ji24)) != 62) = false := bne_eq_false_iff_eq.mpr c28
                 clear c28
                 have H' := Aside0.mk H
                 clear H
                 have p22 : 0 ≤ (0 : Int) := (by omega)
                 have q22 : 0 < (a0.extract ((ji14) : Int).toNat a0.size).size := (by have : (0 : Int) < ((a0.extract ((ji14) : Int).toNat a0.size).size : Int) := qd_; omega)
                 have hx22 : ∀ h : 0 < (a0.extract ((ji14) : Int).toNat a0.size).size, (((a0.extract ((ji14) : Int).toNat a0.size)[0]'h).toNat : Int) = bt (a0.extract ((ji14) : Int).toNat a0.size) 0 := bt_at (a0.extract ((ji14) : Int).toNat a0.size) 0
                 clear p22
                 have qi22 : (0 < ((a0.extract ((ji14) : Int).toNat a0.size).size : Int)) = True := eq_true (qd_)
                 replace q22 := eq_true q22
                 have p27 : 0 ≤ ((ji24) : Int) := qd_
                 have q27 : (ji24) < ((a0.extract ((ji14) : Int).toNat a0.size).size : Int) := qd_
                 have hx27 := bt_at (a0.extract ((ji14) : Int).toNat a0.size) (ji24)
                 replace p27 := eq_true p27
                 replace q27 := eq_true q27
                 go_wp2
                 go_meet
                 case rel => exact ⟨_, (0), (false), (0), (0), (by first | exact H' | (rw [hji24]; exact H') | (rw [hji14]; exact H')), ⟨by have := HJ1.out; first | omega | exact Nat.le_refl _⟩, ⟨qk_ BK247.out⟩, ⟨qb_ HB.out⟩⟩
                ·rw [if_neg c28] at H
                 have c28b0 : ((bt (a0.extract ((ji14) : Int).toNat a0.size) (ji24)) == 62) = false := beq_eq_false_iff_ne.mpr c28
                 have c28b1 : ((bt (a0.extract ((ji14) : Int).toNat a0.size) (ji24)) != 62) = true := bne_iff_ne.mpr c28
                 simp only [Option.some.injEq, Prod.mk.injEq] at H
                 obtain ⟨rfl, rfl, rfl, rfl, rfl, rfl, rfl⟩ := H
                 have p22 : 0 ≤ (0 : Int) := (by omega)
                 have q22 : 0 < (a0.extract ((ji14) : Int).toNat a0.size).size := (by have : (0 : Int) < ((a0.extract ((ji14) : Int).toNat a0.size).size : Int) := qd_; omega)
                 have hx22 : ∀ h : 0 < (a0.extract ((ji14) : Int).toNat a0.size).size, (((a0.extract ((ji14) : Int).toNat a0.size)[0]'h).toNat : Int) = bt (a0.extract ((ji14) : Int).toNat a0.size) 0 := bt_at (a0.extract ((ji14) : Int).toNat a0.size) 0
                 clear p22
                 have qi22 : (0 < ((a0.extract ((ji14) : Int).toNat a0.size).size : Int)) = True := eq_true (qd_)
                 replace q22 := eq_true q22
                 have p27 : 0 ≤ ((ji24) : Int) := qd_
                 have q27 : (ji24) < ((a0.extract ((ji14) : Int).toNat a0.size).size : Int) := qd_
                 have hx27 := bt_at (a0.extract ((ji14) : Int).toNat a0.size) (ji24)
                 replace p27 := eq_true p27
                 replace q27 := eq_true q27
                 obtain ⟨hcz29_0, hcz29_1, hcz29_2, hcz29_3, hcz29_4, hcz29_5, hfz29_0, hfz29_1, hfz29_2, hfz29_3, hfz29_4, hfz29_5⟩ := cz6_ BK247.out
                 go_wp2
                 refine bodyPost_ret (results_ct rfl _ _ gb247 30 #[.slice none 0 0, .int .i64 0, .slice none 0 0, .bool false, .int .i64 0, .int .i64 0] (0, 0) _ rfl (qs6_ (qk_ BK247.out)) Tryd.underlying30 rfl (by kernel_rfl)) rfl ?_
                 exact ⟨_, _, by first | rfl | (simp [errW_none, errW_some] <;> rfl) | (simp only [← hji14, ← hji24]; first | rfl | (simp [errW_none, errW_some] <;> rfl)) | (simp [*, errW_none, errW_some] <;> rfl), qn_, qn_, qb_ HB.out⟩
               ·rw [if_neg c26] at H
                exact absurd H (by simp)
              ·rw [if_neg c25] at H
               exact absurd H (by simp)
             ·rw [if_neg c23] at H
              have c23b0 : ((bt (a0.extract ((ji14) : Int).toNat a0.size) 0) == 60) = false := beq_eq_false_iff_ne.mpr c23
              have c23b1 : ((bt (a0.extract ((ji14) : Int).toNat a0.size) 0) != 60) = true := bne_iff_ne.mpr c23
              simp only [Option.some.injEq, Prod.mk.injEq] at H
              obtain ⟨rfl, rfl, rfl, rfl, rfl, rfl, rfl⟩ := H
              have p22 : 0 ≤ (0 : Int) := (by omega)
              have q22 : 0 < (a0.extract ((ji14) : Int).toNat a0.size).size := (by have : (0 : Int) < ((a0.extract ((ji14) : Int).toNat a0.size).size : Int) := qd_; omega)
              have hx22 : ∀ h : 0 < (a0.extract ((ji14) : Int).toNat a0.size).size, (((a0.extract ((ji14) : Int).toNat a0.size)[0]'h).toNat : Int) = bt (a0.extract ((ji14) : Int).toNat a0.size) 0 := bt_at (a0.extract ((ji14) : Int).toNat a0.size) 0
              clear p22
              have qi22 : (0 < ((a0.extract ((ji14) : Int).toNat a0.size).size : Int)) = True := eq_true (qd_)
              replace q22 := eq_true q22
              obtain ⟨hcz30_0, hcz30_1, hcz30_2, hcz30_3, hcz30_4, hcz30_5, hfz30_0, hfz30_1, hfz30_2, hfz30_3, hfz30_4, hfz30_5⟩ := cz6_ BK247.out
              go_wp2
              refine bodyPost_ret (results_ct rfl _ _ gb247 30 #[.slice none 0 0, .int .i64 0, .slice none 0 0, .bool false, .int .i64 0, .int .i64 0] (0, 0) _ rfl (qs6_ (qk_ BK247.out)) Tryd.underlying30 rfl (by kernel_rfl)) rfl ?_
              exact ⟨_, _, by first | rfl | (simp [errW_none, errW_some] <;> rfl) | (simp only [← hji14]; first | rfl | (simp [errW_none, errW_some] <;> rfl)) | (simp [*, errW_none, errW_some] <;> rfl), qn_, qn_, qb_ HB.out⟩
            ·rw [if_neg c21] at H
             exact absurd H (by simp)
         case rest =>
          clear HC17
          (try clear c7 c10b0 c12b0 c12b1 c13b0 c13b1 c15b0 c15b1)
          obtain ⟨kq, x248001_16, x248003_16, x248004_16, x248005_16, HA, HJ16, BK247, HB⟩ := hcut
          cases kq with
          | zero => exact absurd HA.out (by simp [letterboxref15_Parse.j1])
          | succ kj16 =>
           have H := HA.out
           clear HA
           simp only [letterboxref15_Parse.j1] at H
           replace H := Option.bind_eq_some_iff.mp H
           obtain ⟨⟨t249, t250, t251⟩, A310, H⟩ := H
           replace H : ((letterboxref15_what.f kj16 t249).bind fun bt252 => (if bt252.2.2.2.2.2.2 = true then (if t251 = true then (if (t250.size : Int) < 2 then (letterboxref15_Parse.j2 kj16 (a0.extract ((ji14) : Int).toNat a0.size) t250 true bt252.1 bt252.2.1 bt252.2.2.1 bt252.2.2.2.1 bt252.2.2.2.2.1 bt252.2.2.2.2.2.1) else (if 0 < (t250.size : Int) then (if (bt t250 0) = 40 then (if 0 ≤ (wrap64 ((t250.size : Int) - 1)) then (if (wrap64 ((t250.size : Int) - 1)) < (t250.size : Int) then (letterboxref15_Parse.j2 kj16 (a0.extract ((ji14) : Int).toNat a0.size) t250 ((bt t250 (wrap64 ((t250.size : Int) - 1))) != 41) bt252.1 bt252.2.1 bt252.2.2.1 bt252.2.2.2.1 bt252.2.2.2.2.1 bt252.2.2.2.2.2.1) else (none)) else (none)) else (letterboxref15_Parse.j2 kj16 (a0.extract ((ji14) : Int).toNat a0.size) t250 true bt252.1 bt252.2.1 bt252.2.2.1 bt252.2.2.2.1 bt252.2.2.2.2.1 bt252.2.2.2.2.2.1)) else (none))) else (letterboxref15_Parse.j3 kj16 (a0.extract ((ji14) : Int).toNat a0.size) bt252.1 bt252.2.1 bt252.2.2.1 bt252.2.2.2.1 bt252.2.2.2.2.1 bt252.2.2.2.2.2.1)) else (some (([] : List Int), 0, ([] : List ByteArray), false, 0, 0, 50)))) = some (r1, r2, r3, r4, r5, r6, r7) := H
           have A31 := Aside0.mk A310
           clear A310
           replace H := Option.bind_eq_some_iff.mp H
           obtain ⟨⟨t252, t255, t256, t259, t260, t261, t262⟩, A320, H⟩ := H
           replace H : (if t262 = true then (if t251 = true then (if (t250.size : Int) < 2 then (letterboxref15_Parse.j2 kj16 (a0.extract ((ji14) : Int).toNat a0.size) t250 true t252 t255 t256 t259 t260 t261) else (if 0 < (t250.size : Int) then (if (bt t250 0) = 40 then (if 0 ≤ (wrap64 ((t250.size : Int) - 1)) then (if (wrap64 ((t250.size : Int) - 1)) < (t250.size : Int) then (letterboxref15_Parse.j2 kj16 (a0.extract ((ji14) : Int).toNat a0.size) t250 ((bt t250 (wrap64 ((t250.size : Int) - 1))) != 41) t252 t255 t256 t259 t260 t261) else (none)) else (none)) else (letterboxref15_Parse.j2 kj16 (a0.extract ((ji14) : Int).toNat a0.size) t250 true t252 t255 t256 t259 t260 t261)) else (none))) else (letterboxref15_Parse.j3 kj16 (a0.extract ((ji14) : Int).toNat a0.size) t252 t255 t256 t259 t260 t261)) else (some (([] : List Int), 0, ([] : List ByteArray), false, 0, 0, 50))) = some (r1, r2, r3, r4, r5, r6, r7) := H
           have A32 := Aside0.mk A320
           clear A320
           by_cases c33 : t262 = true
           ·subst c33
            have H1 : (if t251 = true then (if (t250.size : Int) < 2 then (letterboxref15_Parse.j2 kj16 (a0.extract ((ji14) : Int).toNat a0.size) t250 true t252 t255 t256 t259 t260 t261) else (if 0 < (t250.size : Int) then (if (bt t250 0) = 40 then (if 0 ≤ (wrap64 ((t250.size : Int) - 1)) then (if (wrap64 ((t250.size : Int) - 1)) < (t250.size : Int) then (letterboxref15_Parse.j2 kj16 (a0.extract ((ji14) : Int).toNat a0.size) t250 ((bt t250 (wrap64 ((t250.size : Int) - 1))) != 41) t252 t255 t256 t259 t260 t261) else (none)) else (none)) else (letterboxref15_Parse.j2 kj16 (a0.extract ((ji14) : Int).toNat a0.size) t250 true t252 t255 t256 t259 t260 t261)) else (none))) else (letterboxref15_Parse.j3 kj16 (a0.extract ((ji14) : Int).toNat a0.size) t252 t255 t256 t259 t260 t261)) = some (r1, r2, r3, r4, r5, r6, r7) := by rw [if_pos rfl] at H; exact H
            clear H
            have H := H1
            clear H1
            have HC34 := Aside0.mk H
            clear H
            go_upto_if 75 with (first | ((with_reducible refine gate_callee (f := 24) rfl ?_); refine goesL_ (some 63) rfl rfl Tryd.func24 (by kernel_rfl) rfl #[.string (a0.extract 1 (t248 : Int).toNat), .int .u8 32] rfl qa_ ?_; (with_reducible refine (letterboxref15_head.calls kj16 (a0.extract 1 (t248 : Int).toNat) 32 t249 t250 t251 _ A31.out).mono ?_); rintro e w' ⟨rfl, ⟨nd, rfl⟩⟩; refine ⟨_, rfl, ?_⟩; (try (rw [drewN_self wc]; generalize hq_ : World.drewN wc _ = wc; have n0_ : Aside0 (wc.heap[gb247]? = some (.cells #[.slice none 0 0, .int .i64 x248001_16, .slice none 0 0, .bool x248003_16, .int .i64 x248004_16, .int .i64 x248005_16] 30 (0, 0))) := ⟨by rw [← hq_]; exact (qk_ BK247.out)⟩; have n1_ : Aside0 (Below w.heap.size w wc) := ⟨by rw [← hq_]; exact (qb_ HB.out)⟩; clear BK247 HB hq_; have BK247 := n0_; have HB := n1_; clear n0_ n1_; (try have hq0_ := cellS50_0 HI0.out.1); (try have hq1_ := cellS50_1 HI0.out.1); (try have hq2_ := blk_frozen HI0.out.1 0); (try have hq3_ := blk_frozen HI0.out.1 1)))) | ((with_reducible refine gate_callee (f := 25) rfl ?_); refine goesL_ (some 69) rfl rfl Tryd.func25 (by kernel_rfl) rfl #[.string t249] rfl qa_ ?_; (with_reducible refine (letterboxref15_what.calls kj16 t249 t252 t255 t256 t259 t260 t261 true _ A32.out).mono ?_); rintro e w35 ⟨v253, v257, rfl, ho0, ho1, hb⟩; refine ⟨_, rfl, ?_⟩; have n0_ := Aside0.mk (Kd.R_lower ho0 (below_size (qb_ HB.out))); have n1_ := Aside0.mk (Kd.R_lower ho1 (below_size (qb_ HB.out))); have n2_ := Aside0.mk (blk_below (g := gb247) (o := .cells #[.slice none 0 0, .int .i64 x248001_16, .slice none 0 0, .bool x248003_16, .int .i64 x248004_16, .int .i64 x248005_16] 30 (0, 0)) (qk_ BK247.out) hb); have n3_ := Aside0.mk (below_step (qb_ HB.out) hb); clear BK247; clear HB; have HO254 := n0_; have HO258 := n1_; have BK247 := n2_; have HB := n3_; clear n0_ n1_ n2_ n3_; (try clear hb); (try clear hb2); (try clear hk); (try clear hi); (try clear ho0); (try clear ho1)) | ((with_reducible refine gate_dst (N := 11) rfl ?_); (try (refine gate_guard (by rfl) ?_; dsimp only)); refine box_event ?hg (N := 11) ?hd (cs := #[.slice none 0 0, .int .i64 0, .slice none 0 0, .bool false, .int .i64 0, .int .i64 0]) (t := 30) ?hr ?_; (case hd => rfl); (case hg => rfl); (case hr => first | (go_simp; done) | (go_simp; rfl)); intro gb263 hg w36 hbox hb; have n0_ := Aside0.mk (Kd.R_below (ql_ HO254.out) hb); have n1_ := Aside0.mk (Kd.R_below (ql_ HO258.out) hb); have n2_ := Aside0.mk (blk_below (g := gb247) (o := .cells #[.slice none 0 0, .int .i64 x248001_16, .slice none 0 0, .bool x248003_16, .int .i64 x248004_16, .int .i64 x248005_16] 30 (0, 0)) (qk_ BK247.out) hb); have n3_ := Aside0.mk (below_step (qb_ HB.out) hb); have n4_ := Aside0.mk (hbox); have n5_ := Aside0.mk ((by rw [hg]; exact (below_size (qb_ HB.out)) : w.heap.size ≤ gb263)); have n6_ := Aside0.mk ((by rw [hg]; exact (below_size (qb_ HB.out)) : w.heap.size ≤ gb263)); have n7_ := Aside0.mk ((by rw [hg]; exact Nat.ne_of_lt (blk_lt (g := gb247) (o := .cells #[.slice none 0 0, .int .i64 x248001_16, .slice none 0 0, .bool x248003_16, .int .i64 x248004_16, .int .i64 x248005_16] 30 (0, 0)) (qk_ BK247.out)) : gb247 ≠ gb263)); have n8_ := Aside0.mk ((by rw [hg]; exact Nat.ne_of_gt (blk_lt (g := gb247) (o := .cells #[.slice none 0 0, .int .i64 x248001_16, .slice none 0 0, .bool x248003_16, .int .i64 x248004_16, .int .i64 x248005_16] 30 (0, 0)) (qk_ BK247.out)) : gb263 ≠ gb247)); clear HO254; clear HO258; clear BK247; clear HB; have HO254 := n0_; have HO258 := n1_; have BK247 := n2_; have HB := n3_; have BK263 := n4_; have GW263 := n5_; have GE263 := n6_; have NB247_263 := n7_; have NB263_247 := n8_; clear n0_ n1_ n2_ n3_ n4_ n5_ n6_ n7_ n8_; clear hb hbox hg; obtain ⟨Ao37, co37, eo37⟩ := Kd.R_slice HO254.out; subst eo37; have hnb38 := NB263_247.out; have hnc38 := NB247_263.out; have hcz39_0 : w36.cell? ⟨gb263, 0, none⟩ = some (.slice none 0 0) := (blk_cell BK263.out 0).trans rfl; have hcz39_1 : w36.cell? ⟨gb263, 1, none⟩ = some (.int .i64 0) := (blk_cell BK263.out 1).trans rfl; have hcz39_2 : w36.cell? ⟨gb263, 2, none⟩ = some (.slice none 0 0) := (blk_cell BK263.out 2).trans rfl; have hcz39_3 : w36.cell? ⟨gb263, 3, none⟩ = some (.bool false) := (blk_cell BK263.out 3).trans rfl; have hcz39_4 : w36.cell? ⟨gb263, 4, none⟩ = some (.int .i64 0) := (blk_cell BK263.out 4).trans rfl; have hcz39_5 : w36.cell? ⟨gb263, 5, none⟩ = some (.int .i64 0) := (blk_cell BK263.out 5).trans rfl; have hfz39_0 := blk_frozen BK263.out 0; have hfz39_1 := blk_frozen BK263.out 1; have hfz39_2 := blk_frozen BK263.out 2; have hfz39_3 := blk_frozen BK263.out 3; have hfz39_4 := blk_frozen BK263.out 4; have hfz39_5 := blk_frozen BK263.out 5; obtain ⟨Ao40, co40, eo40⟩ := Kd.R_slice HO258.out; subst eo40))
            (try simp only [Act.put, List.setIfInBounds_toArray, List.set_cons_zero, List.set_cons_succ])
            go_cut [] (fun wc => ∃ (kq : Nat) (x248001_33 : Int) (x248003_33 : Bool) (x248004_33 : Int) (x248005_33 : Int) (x264002_33 : List ByteArray) (u264002 : Value), Aside0 (letterboxref15_Parse.j3 kq (a0.extract ((ji14) : Int).toNat a0.size) t252 t255 x264002_33 t259 t260 t261 = some (r1, r2, r3, r4, r5, r6, r7)) ∧ Aside0 (kq ≤ kj16) ∧ Aside0 (Kd.R (Kd.int .i64) 3 wc w.heap.size (fun _ => True) (.slice Ao37 t252.length co37) t252) ∧ Aside0 (Kd.R Kd.string 9 wc w.heap.size (fun _ => True) u264002 x264002_33) ∧ Aside0 (wc.heap[gb247]? = some (.cells #[(.slice none 0 0), .int .i64 x248001_33, (.slice none 0 0), .bool x248003_33, .int .i64 x248004_33, .int .i64 x248005_33] 30 (0, 0))) ∧ Aside0 (wc.heap[gb263]? = some (.cells #[(.slice Ao37 t252.length co37), .int .i64 t255, u264002, .bool t259, .int .i64 t260, .int .i64 t261] 30 (0, 0))) ∧ Aside0 (Below w.heap.size w wc))
            case first =>
             have H := HC34.out
             clear HC34
             by_cases c41 : t251 = true
             ·subst c41
              have H1 : (if (t250.size : Int) < 2 then (letterboxref15_Parse.j2 kj16 (a0.extract ((ji14) : Int).toNat a0.size) t250 true t252 t255 t256 t259 t260 t261) else (if 0 < (t250.size : Int) then (if (bt t250 0) = 40 then (if 0 ≤ (wrap64 ((t250.size : Int) - 1)) then (if (wrap64 ((t250.size : Int) - 1)) < (t250.size : Int) then (letterboxref15_Parse.j2 kj16 (a0.extract ((ji14) : Int).toNat a0.size) t250 ((bt t250 (wrap64 ((t250.size : Int) - 1))) != 41) t252 t255 t256 t259 t260 t261) else (none)) else (none)) else (letterboxref15_Parse.j2 kj16 (a0.extract ((ji14) : Int).toNat a0.size) t250 true t252 t255 t256 t259 t260 t261)) else (none))) = some (r1, r2, r3, r4, r5, r6, r7) := by rw [if_pos rfl] at H; exact H
              clear H
              have H := H1
              clear H1
              have HC42 := Aside0.mk H
              clear H
              go_upto_region 17 with (fail)
              go_cut [91] (fun v91 wc => ∃ (kq : Nat) (x91_41 : Bool), v91 = .bool x91_41 ∧ Aside0 (letterboxref15_Parse.j2 kq (a0.extract ((ji14) : Int).toNat a0.size) t250 x91_41 t252 t255 t256 t259 t260 t261 = some (r1, r2, r3, r4, r5, r6, r7)) ∧ Aside0 (kq ≤ kj16) ∧ Aside0 (Kd.R (Kd.int .i64) 3 wc w.heap.size (fun _ => True) (.slice Ao37 t252.length co37) t252) ∧ Aside0 (Kd.R Kd.string 9 wc w.heap.size (fun _ => True) (.slice Ao40 t256.length co40) t256) ∧ Aside0 (wc.heap[gb247]? = some (.cells #[(.slice none 0 0), .int .i64 x248001_16, (.slice none 0 0), .bool x248003_16, .int .i64 x248004_16, .int .i64 x248005_16] 30 (0, 0))) ∧ Aside0 (wc.heap[gb263]? = some (.cells #[(.slice Ao37 t252.length co37), .int .i64 t255, (.slice Ao40 t256.length co40), .bool t259, .int .i64 t260, .int .i64 t261] 30 (0, 0))) ∧ Aside0 (Below w.heap.size w wc))
              case first =>
               have H := HC42.out
               clear HC42
               by_cases c43 : (t250.size : Int) < 2
               ·rw [if_pos c43] at H
                have c43b0 : decide ((t250.size : Int) < 2) = true := decide_eq_true c43
                have c43b1 : decide (t250.size < 2) = true := decide_eq_true (by omega)
                clear c43
                (first | rw [c43b0] | rw [c43b5] | (simp only [i64_w, i32_w]; rw [c43b0]) | skip)
                have H' := Aside0.mk H
                clear H
                go_wp2
                go_meet
                case rel => exact ⟨_, (true), qr_, (by first | exact H' | (rw [hji24]; exact H') | (rw [hji14]; exact H')), ⟨by have := HJ1.out; have := HJ16.out; first | omega | exact Nat.le_refl _⟩, ⟨by (with_reducible repeat (first | apply Kd.R_alloc | apply Kd.R_drewN | apply Kd.R_drew)); exact Kd.R_mono (Kd.R_far (p := ⟨gb263, 5, none⟩) (Kd.R_far (p := ⟨gb263, 4, none⟩) (Kd.R_far (p := ⟨gb263, 3, none⟩) (Kd.R_far (p := ⟨gb263, 2, none⟩) (Kd.R_far (p := ⟨gb263, 1, none⟩) (Kd.R_far (p := ⟨gb263, 0, none⟩) (Kd.R_types HO254.out BK263.out (by decide)) (fun _ hk => hk.2) (.slice Ao37 t252.length co37)) (fun _ hk => hk.2) (.int .i64 t255)) (fun _ hk => hk.2) (.slice Ao40 t256.length co40)) (fun _ hk => hk.2) (.bool t259)) (fun _ hk => hk.2) (.int .i64 t260)) (fun _ hk => hk.2) (.int .i64 t261)) (fun _ hk => trivial)⟩, ⟨by (with_reducible repeat (first | apply Kd.R_alloc | apply Kd.R_drewN | apply Kd.R_drew)); exact Kd.R_mono (Kd.R_far (p := ⟨gb263, 5, none⟩) (Kd.R_far (p := ⟨gb263, 4, none⟩) (Kd.R_far (p := ⟨gb263, 3, none⟩) (Kd.R_far (p := ⟨gb263, 2, none⟩) (Kd.R_far (p := ⟨gb263, 1, none⟩) (Kd.R_far (p := ⟨gb263, 0, none⟩) (Kd.R_types HO258.out BK263.out (by decide)) (fun _ hk => hk.2) (.slice Ao37 t252.length co37)) (fun _ hk => hk.2) (.int .i64 t255)) (fun _ hk => hk.2) (.slice Ao40 t256.length co40)) (fun _ hk => hk.2) (.bool t259)) (fun _ hk => hk.2) (.int .i64 t260)) (fun _ hk => hk.2) (.int .i64 t261)) (fun _ hk => trivial)⟩, ⟨by (with_reducible repeat (first | refine blk_drewN ?_ _ | refine blk_drew ?_ | refine blk_alloc ?_ _)); refine blk_far ?_ NB247_263.out _; (with_reducible repeat (first | refine blk_drewN ?_ _ | refine blk_drew ?_ | refine blk_alloc ?_ _)); refine blk_far ?_ NB247_263.out _; (with_reducible repeat (first | refine blk_drewN ?_ _ | refine blk_drew ?_ | refine blk_alloc ?_ _)); refine blk_far ?_ NB247_263.out _; (with_reducible repeat (first | refine blk_drewN ?_ _ | refine blk_drew ?_ | refine blk_alloc ?_ _)); refine blk_far ?_ NB247_263.out _; (with_reducible repeat (first | refine blk_drewN ?_ _ | refine blk_drew ?_ | refine blk_alloc ?_ _)); refine blk_far ?_ NB247_263.out _; (with_reducible repeat (first | refine blk_drewN ?_ _ | refine blk_drew ?_ | refine blk_alloc ?_ _)); refine blk_far ?_ NB247_263.out _; (with_reducible repeat (first | refine blk_drewN ?_ _ | refine blk_drew ?_ | refine blk_alloc ?_ _)); exact BK247.out⟩, ⟨by (with_reducible repeat (first | refine blk_drewN ?_ _ | refine blk_drew ?_ | refine blk_alloc ?_ _)); refine blk_put (cs := #[.slice Ao37 t252.length co37, .int .i64 t255, .slice Ao40 t256.length co40, .bool t259, .int .i64 t260, .int .i64 0]) ?_ 5 _ rfl; (with_reducible repeat (first | refine blk_drewN ?_ _ | refine blk_drew ?_ | refine blk_alloc ?_ _)); refine blk_put (cs := #[.slice Ao37 t252.length co37, .int .i64 t255, .slice Ao40 t256.length co40, .bool t259, .int .i64 0, .int .i64 0]) ?_ 4 _ rfl; (with_reducible repeat (first | refine blk_drewN ?_ _ | refine blk_drew ?_ | refine blk_alloc ?_ _)); refine blk_put (cs := #[.slice Ao37 t252.length co37, .int .i64 t255, .slice Ao40 t256.length co40, .bool false, .int .i64 0, .int .i64 0]) ?_ 3 _ rfl; (with_reducible repeat (first | refine blk_drewN ?_ _ | refine blk_drew ?_ | refine blk_alloc ?_ _)); refine blk_put (cs := #[.slice Ao37 t252.length co37, .int .i64 t255, .slice none 0 0, .bool false, .int .i64 0, .int .i64 0]) ?_ 2 _ rfl; (with_reducible repeat (first | refine blk_drewN ?_ _ | refine blk_drew ?_ | refine blk_alloc ?_ _)); refine blk_put (cs := #[.slice Ao37 t252.length co37, .int .i64 0, .slice none 0 0, .bool false, .int .i64 0, .int .i64 0]) ?_ 1 _ rfl; (with_reducible repeat (first | refine blk_drewN ?_ _ | refine blk_drew ?_ | refine blk_alloc ?_ _)); refine blk_put (cs := #[.slice none 0 0, .int .i64 0, .slice none 0 0, .bool false, .int .i64 0, .int .i64 0]) ?_ 0 _ rfl; (with_reducible repeat (first | refine blk_drewN ?_ _ | refine blk_drew ?_ | refine blk_alloc ?_ _)); exact BK263.out⟩, ⟨qb_ HB.out⟩⟩
               ·rw [if_neg c43] at H
                have c43b0 : decide ((t250.size : Int) < 2) = false := decide_eq_false c43
                have c43b1 : decide (t250.size < 2) = false := decide_eq_false (by omega)
                clear c43
                (first | rw [c43b0] | rw [c43b5] | (simp only [i64_w, i32_w]; rw [c43b0]) | skip)
                by_cases c44 : 0 < (t250.size : Int)
                ·rw [if_pos c44] at H
                 have c44b0 : decide (0 < (t250.size : Int)) = true := decide_eq_true c44
                 have c44b1 : decide (0 < t250.size) = true := decide_eq_true (by omega)
                 clear c44
                 by_cases c46 : (bt t250 0) = 40
                 ·rw [if_pos c46] at H
                  have c46b0 : ((bt t250 0) == 40) = true := beq_iff_eq.mpr c46
                  have c46b1 : ((bt t250 0) != 40) = false := bne_eq_false_iff_eq.mpr c46
                  clear c46
                  obtain ⟨ji47, hji47⟩ : ∃ j_ : Int, (wrap64 ((t250.size : Int) - 1)) = j_ := ⟨_, rfl⟩
                  replace H : (if 0 ≤ (ji47) then (if (ji47) < (t250.size : Int) then (letterboxref15_Parse.j2 kj16 (a0.extract ((ji14) : Int).toNat a0.size) t250 ((bt t250 (ji47)) != 41) t252 t255 t256 t259 t260 t261) else (none)) else (none)) = some (r1, r2, r3, r4, r5, r6, r7) := by first | (rw [hji47] at H; exact H) | (simp only [hji47] at H ⊢; exact H)
                  have hji47w : (IntKind.i64.wrap ((t250.size : Int) - 1)) = ji47 := (i64_w _).trans hji47
                  by_cases c48 : 0 ≤ (ji47)
                  ·rw [if_pos c48] at H
                   have c48b0 : decide (0 ≤ (ji47)) = true := decide_eq_true c48
                   clear c48
                   by_cases c49 : (ji47) < (t250.size : Int)
                   ·rw [if_pos c49] at H
                    have c49b0 : decide ((ji47) < (t250.size : Int)) = true := decide_eq_true c49
                    clear c49
                    have H' := Aside0.mk H
                    clear H
                    have p45 : 0 ≤ (0 : Int) := (by omega)
                    have q45 : 0 < t250.size := (by have : (0 : Int) < (t250.size : Int) := qd_; omega)
                    have hx45 : ∀ h : 0 < t250.size, ((t250[0]'h).toNat : Int) = bt t250 0 := bt_at t250 0
                    clear p45
                    have qi45 : (0 < (t250.size : Int)) = True := eq_true (qd_)
                    replace q45 := eq_true q45
                    have p50 : 0 ≤ ((ji47) : Int) := qd_
                    have q50 : (ji47) < (t250.size : Int) := qd_
                    have hx50 := bt_at t250 (ji47)
                    replace p50 := eq_true p50
                    replace q50 := eq_true q50
                    go_wp2
                    go_meet
                    case rel => exact ⟨_, (((bt t250 (ji47)) != 41)), (by first | rfl | (simp; done) | (simp only [← hji47] <;> (first | rfl | simp)) | (simp [*]; done)), (by first | exact H' | (rw [hji47]; exact H') | (rw [hji24]; exact H') | (rw [hji14]; exact H')), ⟨by have := HJ1.out; have := HJ16.out; first | omega | exact Nat.le_refl _⟩, ⟨by (with_reducible repeat (first | apply Kd.R_alloc | apply Kd.R_drewN | apply Kd.R_drew)); exact Kd.R_mono (Kd.R_far (p := ⟨gb263, 5, none⟩) (Kd.R_far (p := ⟨gb263, 4, none⟩) (Kd.R_far (p := ⟨gb263, 3, none⟩) (Kd.R_far (p := ⟨gb263, 2, none⟩) (Kd.R_far (p := ⟨gb263, 1, none⟩) (Kd.R_far (p := ⟨gb263, 0, none⟩) (Kd.R_types HO254.out BK263.out (by decide)) (fun _ hk => hk.2) (.slice Ao37 t252.length co37)) (fun _ hk => hk.2) (.int .i64 t255)) (fun _ hk => hk.2) (.slice Ao40 t256.length co40)) (fun _ hk => hk.2) (.bool t259)) (fun _ hk => hk.2) (.int .i64 t260)) (fun _ hk => hk.2) (.int .i64 t261)) (fun _ hk => trivial)⟩, ⟨by (with_reducible repeat (first | apply Kd.R_alloc | apply Kd.R_drewN | apply Kd.R_drew)); exact Kd.R_mono (Kd.R_far (p := ⟨gb263, 5, none⟩) (Kd.R_far (p := ⟨gb263, 4, none⟩) (Kd.R_far (p := ⟨gb263, 3, none⟩) (Kd.R_far (p := ⟨gb263, 2, none⟩) (Kd.R_far (p := ⟨gb263, 1, none⟩) (Kd.R_far (p := ⟨gb263, 0, none⟩) (Kd.R_types HO258.out BK263.out (by decide)) (fun _ hk => hk.2) (.slice Ao37 t252.length co37)) (fun _ hk => hk.2) (.int .i64 t255)) (fun _ hk => hk.2) (.slice Ao40 t256.length co40)) (fun _ hk => hk.2) (.bool t259)) (fun _ hk => hk.2) (.int .i64 t260)) (fun _ hk => hk.2) (.int .i64 t261)) (fun _ hk => trivial)⟩, ⟨by (with_reducible repeat (first | refine blk_drewN ?_ _ | refine blk_drew ?_ | refine blk_alloc ?_ _)); refine blk_far ?_ NB247_263.out _; (with_reducible repeat (first | refine blk_drewN ?_ _ | refine blk_drew ?_ | refine blk_alloc ?_ _)); refine blk_far ?_ NB247_263.out _; (with_reducible repeat (first | refine blk_drewN ?_ _ | refine blk_drew ?_ | refine blk_alloc ?_ _)); refine blk_far ?_ NB247_263.out _; (with_reducible repeat (first | refine blk_drewN ?_ _ | refine blk_drew ?_ | refine blk_alloc ?_ _)); refine blk_far ?_ NB247_263.out _; (with_reducible repeat (first | refine blk_drewN ?_ _ | refine blk_drew ?_ | refine blk_alloc ?_ _)); refine blk_far ?_ NB247_263.out _; (with_reducible repeat (first | refine blk_drewN ?_ _ | refine blk_drew ?_ | refine blk_alloc ?_ _)); refine blk_far ?_ NB247_263.out _; (with_reducible repeat (first | refine blk_drewN ?_ _ | refine blk_drew ?_ | refine blk_alloc ?_ _)); exact BK247.out⟩, ⟨by (with_reducible repeat (first | refine blk_drewN ?_ _ | refine blk_drew ?_ | refine blk_alloc ?_ _)); refine blk_put (cs := #[.slice Ao37 t252.length co37, .int .i64 t255, .slice Ao40 t256.length co40, .bool t259, .int .i64 t260, .int .i64 0]) ?_ 5 _ rfl; (with_reducible repeat (first | refine blk_drewN ?_ _ | refine blk_drew ?_ | refine blk_alloc ?_ _)); refine blk_put (cs := #[.slice Ao37 t252.length co37, .int .i64 t255, .slice Ao40 t256.length co40, .bool t259, .int .i64 0, .int .i64 0]) ?_ 4 _ rfl; (with_reducible repeat (first | refine blk_drewN ?_ _ | refine blk_drew ?_ | refine blk_alloc ?_ _)); refine blk_put (cs := #[.slice Ao37 t252.length co37, .int .i64 t255, .slice Ao40 t256.length co40, .bool false, .int .i64 0, .int .i64 0]) ?_ 3 _ rfl; (with_reducible repeat (first | refine blk_drewN ?_ _ | refine blk_drew ?_ | refine blk_alloc ?_ _)); refine blk_put (cs := #[.slice Ao37 t252.length co37, .int .i64 t255, .slice none 0 0, .bool false, .int .i64 0, .int .i64 0]) ?_ 2 _ rfl; (with_reducible repeat (first | refine blk_drewN ?_ _ | refine blk_drew ?_ | refine blk_alloc ?_ _)); refine blk_put (cs := #[.slice Ao37 t252.length co37, .int .i64 0, .slice none 0 0, .bool false, .int .i64 0, .int .i64 0]) ?_ 1 _ rfl; (with_reducible repeat (first | refine blk_drewN ?_ _ | refine blk_drew ?_ | refine blk_alloc ?_ _)); refine blk_put (cs := #[.slice none 0 0, .int .i64 0, .slice none 0 0, .bool false, .int .i64 0, .int .i64 0]) ?_ 0 _ rfl; (with_reducible repeat (first | refine blk_drewN ?_ _ | refine blk_drew ?_ | refine blk_alloc ?_ _)); exact BK263.out⟩, ⟨qb_ HB.out⟩⟩
                   ·rw [if_neg c49] at H
                    exact absurd H (by simp)
                  ·rw [if_neg c48] at H
                   exact absurd H (by simp)
                 ·rw [if_neg c46] at H
                  have c46b0 : ((bt t250 0) == 40) = false := beq_eq_false_iff_ne.mpr c46
                  have c46b1 : ((bt t250 0) != 40) = true := bne_iff_ne.mpr c46
                  have H' := Aside0.mk H
                  clear H
                  have p45 : 0 ≤ (0 : Int) := (by omega)
                  have q45 : 0 < t250.size := (by have : (0 : Int) < (t250.size : Int) := qd_; omega)
                  have hx45 : ∀ h : 0 < t250.size, ((t250[0]'h).toNat : Int) = bt t250 0 := bt_at t250 0
                  clear p45
                  have qi45 : (0 < (t250.size : Int)) = True := eq_true (qd_)
                  replace q45 := eq_true q45
                  go_wp2
                  go_meet
                  case rel => exact ⟨_, (true), qr_, (by first | exact H' | (rw [hji47]; exact H') | (rw [hji24]; exact H') | (rw [hji14]; exact H')), ⟨by have := HJ1.out; have := HJ16.out; first | omega | exact Nat.le_refl _⟩, ⟨by (with_reducible repeat (first | apply Kd.R_alloc | apply Kd.R_drewN | apply Kd.R_drew)); exact Kd.R_mono (Kd.R_far (p := ⟨gb263, 5, none⟩) (Kd.R_far (p := ⟨gb263, 4, none⟩) (Kd.R_far (p := ⟨gb263, 3, none⟩) (Kd.R_far (p := ⟨gb263, 2, none⟩) (Kd.R_far (p := ⟨gb263, 1, none⟩) (Kd.R_far (p := ⟨gb263, 0, none⟩) (Kd.R_types HO254.out BK263.out (by decide)) (fun _ hk => hk.2) (.slice Ao37 t252.length co37)) (fun _ hk => hk.2) (.int .i64 t255)) (fun _ hk => hk.2) (.slice Ao40 t256.length co40)) (fun _ hk => hk.2) (.bool t259)) (fun _ hk => hk.2) (.int .i64 t260)) (fun _ hk => hk.2) (.int .i64 t261)) (fun _ hk => trivial)⟩, ⟨by (with_reducible repeat (first | apply Kd.R_alloc | apply Kd.R_drewN | apply Kd.R_drew)); exact Kd.R_mono (Kd.R_far (p := ⟨gb263, 5, none⟩) (Kd.R_far (p := ⟨gb263, 4, none⟩) (Kd.R_far (p := ⟨gb263, 3, none⟩) (Kd.R_far (p := ⟨gb263, 2, none⟩) (Kd.R_far (p := ⟨gb263, 1, none⟩) (Kd.R_far (p := ⟨gb263, 0, none⟩) (Kd.R_types HO258.out BK263.out (by decide)) (fun _ hk => hk.2) (.slice Ao37 t252.length co37)) (fun _ hk => hk.2) (.int .i64 t255)) (fun _ hk => hk.2) (.slice Ao40 t256.length co40)) (fun _ hk => hk.2) (.bool t259)) (fun _ hk => hk.2) (.int .i64 t260)) (fun _ hk => hk.2) (.int .i64 t261)) (fun _ hk => trivial)⟩, ⟨by (with_reducible repeat (first | refine blk_drewN ?_ _ | refine blk_drew ?_ | refine blk_alloc ?_ _)); refine blk_far ?_ NB247_263.out _; (with_reducible repeat (first | refine blk_drewN ?_ _ | refine blk_drew ?_ | refine blk_alloc ?_ _)); refine blk_far ?_ NB247_263.out _; (with_reducible repeat (first | refine blk_drewN ?_ _ | refine blk_drew ?_ | refine blk_alloc ?_ _)); refine blk_far ?_ NB247_263.out _; (with_reducible repeat (first | refine blk_drewN ?_ _ | refine blk_drew ?_ | refine blk_alloc ?_ _)); refine blk_far ?_ NB247_263.out _; (with_reducible repeat (first | refine blk_drewN ?_ _ | refine blk_drew ?_ | refine blk_alloc ?_ _)); refine blk_far ?_ NB247_263.out _; (with_reducible repeat (first | refine blk_drewN ?_ _ | refine blk_drew ?_ | refine blk_alloc ?_ _)); refine blk_far ?_ NB247_263.out _; (with_reducible repeat (first | refine blk_drewN ?_ _ | refine blk_drew ?_ | refine blk_alloc ?_ _)); exact BK247.out⟩, ⟨by (with_reducible repeat (first | refine blk_drewN ?_ _ | refine blk_drew ?_ | refine blk_alloc ?_ _)); refine blk_put (cs := #[.slice Ao37 t252.length co37, .int .i64 t255, .slice Ao40 t256.length co40, .bool t259, .int .i64 t260, .int .i64 0]) ?_ 5 _ rfl; (with_reducible repeat (first | refine blk_drewN ?_ _ | refine blk_drew ?_ | refine blk_alloc ?_ _)); refine blk_put (cs := #[.slice Ao37 t252.length co37, .int .i64 t255, .slice Ao40 t256.length co40, .bool t259, .int .i64 0, .int .i64 0]) ?_ 4 _ rfl; (with_reducible repeat (first | refine blk_drewN ?_ _ | refine blk_drew ?_ | refine blk_alloc ?_ _)); refine blk_put (cs := #[.slice Ao37 t252.length co37, .int .i64 t255, .slice Ao40 t256.length co40, .bool false, .int .i64 0, .int .i64 0]) ?_ 3 _ rfl; (with_reducible repeat (first | refine blk_drewN ?_ _ | refine blk_drew ?_ | refine blk_alloc ?_ _)); refine blk_put (cs := #[.slice Ao37 t252.length co37, .int .i64 t255, .slice none 0 0, .bool false, .int .i64 0, .int .i64 0]) ?_ 2 _ rfl; (with_reducible repeat (first | refine blk_drewN ?_ _ | refine blk_drew ?_ | refine blk_alloc ?_ _)); refine blk_put (cs := #[.slice Ao37 t252.length co37, .int .i64 0, .slice none 0 0, .bool false, .int .i64 0, .int .i64 0]) ?_ 1 _ rfl; (with_reducible repeat (first | refine blk_drewN ?_ _ | refine blk_drew ?_ | refine blk_alloc ?_ _)); refine blk_put (cs := #[.slice none 0 0, .int .i64 0, .slice none 0 0, .bool false, .int .i64 0, .int .i64 0]) ?_ 0 _ rfl; (with_reducible repeat (first | refine blk_drewN ?_ _ | refine blk_drew ?_ | refine blk_alloc ?_ _)); exact BK263.out⟩, ⟨qb_ HB.out⟩⟩
                ·rw [if_neg c44] at H
                 exact absurd H (by simp)
              case rest =>
               clear HC42
               (try clear c33 c41)
               obtain ⟨kq, x91_41, rfl, HA, HJ41, HO_264000, HO_264002, BK247, BK263, HB⟩ := hcut
               cases kq with
               | zero => exact absurd HA.out (by simp [letterboxref15_Parse.j2])
               | succ kj41 =>
                have H := HA.out
                clear HA
                simp only [letterboxref15_Parse.j2] at H
                by_cases c51 : x91_41 = true
                ·subst c51
                 have H1 : (some (([] : List Int), 0, ([] : List ByteArray), false, 0, 0, 50)) = some (r1, r2, r3, r4, r5, r6, r7) := by rw [if_pos rfl] at H; exact H
                 clear H
                 have H := H1
                 clear H1
                 simp only [Option.some.injEq, Prod.mk.injEq] at H
                 obtain ⟨rfl, rfl, rfl, rfl, rfl, rfl, rfl⟩ := H
                 have hnb52 := NB247_263.out
                 have hnc52 := NB263_247.out
                 obtain ⟨hcz53_0, hcz53_1, hcz53_2, hcz53_3, hcz53_4, hcz53_5, hfz53_0, hfz53_1, hfz53_2, hfz53_3, hfz53_4, hfz53_5⟩ := cz6_ BK247.out
                 go_wp2
                 refine bodyPost_ret (results_ct rfl _ _ gb247 30 #[.slice none 0 0, .int .i64 0, .slice none 0 0, .bool false, .int .i64 0, .int .i64 0] (0, 0) _ rfl (qs6_ (qk_ BK247.out)) Tryd.underlying30 rfl (by kernel_rfl)) rfl ?_
                 exact ⟨_, _, by first | rfl | (simp [errW_none, errW_some] <;> rfl) | (simp only [← hji14]; first | rfl | (simp [errW_none, errW_some] <;> rfl)) | (simp [*, errW_none, errW_some] <;> rfl), qn_, qn_, qb_ HB.out⟩
                ·replace c51 := Bool.eq_false_iff.mpr c51
                 subst c51
                 have H1 : (if 1 ≤ (wrap64 ((t250.size : Int) - 1)) then (if (wrap64 ((t250.size : Int) - 1)) ≤ (t250.size : Int) then ((letterboxref15_names.f kj41 (t250.extract 1 ((wrap64 ((t250.size : Int) - 1)) : Int).toNat)).bind fun bt264 => (if bt264.2 = true then (letterboxref15_Parse.j3 kj41 (a0.extract ((ji14) : Int).toNat a0.size) t252 t255 bt264.1 t259 t260 t261) else (some (([] : List Int), 0, ([] : List ByteArray), false, 0, 0, 50)))) else (none)) else (none)) = some (r1, r2, r3, r4, r5, r6, r7) := by rw [if_neg (show ¬ (false = true) by decide)] at H; exact H
                 clear H
                 have H := H1
                 clear H1
                 by_cases c54 : 1 ≤ (wrap64 ((t250.size : Int) - 1))
                 ·rw [if_pos c54] at H
                  have c54b0 := eq_true c54
                  have c54b1 : decide (1 ≤ (wrap64 ((t250.size : Int) - 1))) = true := decide_eq_true c54
                  clear c54
                  by_cases c55 : (wrap64 ((t250.size : Int) - 1)) ≤ (t250.size : Int)
                  ·rw [if_pos c55] at H
                   have c55b0 := eq_true c55
                   have c55b1 : decide ((wrap64 ((t250.size : Int) - 1)) ≤ (t250.size : Int)) = true := decide_eq_true c55
                   clear c55
                   replace H := Option.bind_eq_some_iff.mp H
                   obtain ⟨⟨t264, t265⟩, A560, H⟩ := H
                   replace H : (if t265 = true then (letterboxref15_Parse.j3 kj41 (a0.extract ((ji14) : Int).toNat a0.size) t252 t255 t264 t259 t260 t261) else (some (([] : List Int), 0, ([] : List ByteArray), false, 0, 0, 50))) = some (r1, r2, r3, r4, r5, r6, r7) := H
                   have A56 := Aside0.mk A560
                   clear A560
                   by_cases c57 : t265 = true
                   ·subst c57
                    have H1 : (letterboxref15_Parse.j3 kj41 (a0.extract ((ji14) : Int).toNat a0.size) t252 t255 t264 t259 t260 t261) = some (r1, r2, r3, r4, r5, r6, r7) := by rw [if_pos rfl] at H; exact H
                    clear H
                    have H := H1
                    clear H1
                    have H' := Aside0.mk H
                    clear H
                    go_wp2_with (first | ((with_reducible refine gate_callee (f := 26) rfl ?_); refine goesL_ (some 99) rfl rfl Tryd.func26 (by kernel_rfl) rfl #[.string (t250.extract 1 ((wrap64 ((t250.size : Int) - 1)) : Int).toNat)] rfl qa_ ?_; (with_reducible refine (letterboxref15_names.calls kj41 (t250.extract 1 ((wrap64 ((t250.size : Int) - 1)) : Int).toNat) t264 true _ A56.out).mono ?_); rintro e w58 ⟨v266, rfl, ho0, hb⟩; refine ⟨_, rfl, ?_⟩; have n0_ := Aside0.mk (Kd.R_below (ql_ HO_264000.out) hb); have n1_ := Aside0.mk (Kd.R_elder' (ql_ HO_264002.out) (Kd.R_base ho0) hb); have n2_ := Aside0.mk (Kd.R_lower (Kd.R_new' ho0 (Kd.R_lt (ql_ HO_264002.out))) (below_size (qb_ HB.out))); have n3_ := Aside0.mk (blk_below (g := gb247) (o := .cells #[.slice none 0 0, .int .i64 x248001_16, .slice none 0 0, .bool x248003_16, .int .i64 x248004_16, .int .i64 x248005_16] 30 (0, 0)) (qk_ BK247.out) hb); have n4_ := Aside0.mk (blk_below (g := gb263) (o := .cells #[.slice Ao37 t252.length co37, .int .i64 t255, .slice Ao40 t256.length co40, .bool t259, .int .i64 t260, .int .i64 t261] 30 (0, 0)) (qk_ BK263.out) hb); have n5_ := Aside0.mk (below_step (qb_ HB.out) hb); clear HO_264000; clear HO_264002; clear BK247; clear BK263; clear HB; have HO_264000 := n0_; have HO_264002 := n1_; have HO267 := n2_; have BK247 := n3_; have BK263 := n4_; have HB := n5_; clear n0_ n1_ n2_ n3_ n4_ n5_; (try clear hb); (try clear hb2); (try clear hk); (try clear hi); (try clear ho0); obtain ⟨Ao59, co59, eo59⟩ := Kd.R_slice HO267.out; subst eo59; have hnb60 := NB263_247.out; have hnc60 := NB247_263.out; have hcz61_0 : w58.cell? ⟨gb263, 0, none⟩ = some (.slice Ao37 t252.length co37) := (blk_cell BK263.out 0).trans rfl; have hcz61_1 : w58.cell? ⟨gb263, 1, none⟩ = some (.int .i64 t255) := (blk_cell BK263.out 1).trans rfl; have hcz61_2 : w58.cell? ⟨gb263, 2, none⟩ = some (.slice Ao40 t256.length co40) := (blk_cell BK263.out 2).trans rfl; have hcz61_3 : w58.cell? ⟨gb263, 3, none⟩ = some (.bool t259) := (blk_cell BK263.out 3).trans rfl; have hcz61_4 : w58.cell? ⟨gb263, 4, none⟩ = some (.int .i64 t260) := (blk_cell BK263.out 4).trans rfl; have hcz61_5 : w58.cell? ⟨gb263, 5, none⟩ = some (.int .i64 t261) := (blk_cell BK263.out 5).trans rfl; have hfz61_0 := blk_frozen BK263.out 0; have hfz61_1 := blk_frozen BK263.out 1; have hfz61_2 := blk_frozen BK263.out 2; have hfz61_3 := blk_frozen BK263.out 3; have hfz61_4 := blk_frozen BK263.out 4; have hfz61_5 := blk_frozen BK263.out 5))
                    go_meet
                    case rel => exact ⟨_, (x248001_16), (x248003_16), (x248004_16), (x248005_16), (t264), (.slice Ao59 t264.length co59), (by first | exact H' | (rw [hji47]; exact H') | (rw [hji24]; exact H') | (rw [hji14]; exact H')), ⟨by have := HJ1.out; have := HJ16.out; have := HJ41.out; first | omega | exact Nat.le_refl _⟩, ⟨by (with_reducible repeat (first | apply Kd.R_alloc | apply Kd.R_drewN | apply Kd.R_drew)); exact Kd.R_mono (Kd.R_far (p := ⟨gb263, 2, none⟩) (Kd.R_types HO_264000.out BK263.out (by decide)) (fun _ hk => hk.2) (.slice Ao59 t264.length co59)) (fun _ hk => trivial)⟩, ⟨by (with_reducible repeat (first | apply Kd.R_alloc | apply Kd.R_drewN | apply Kd.R_drew)); exact Kd.R_mono (Kd.R_far (p := ⟨gb263, 2, none⟩) (Kd.R_types HO267.out BK263.out (by decide)) (fun _ hk => hk.2) (.slice Ao59 t264.length co59)) (fun _ hk => trivial)⟩, ⟨by (with_reducible repeat (first | refine blk_drewN ?_ _ | refine blk_drew ?_ | refine blk_alloc ?_ _)); refine blk_far ?_ NB247_263.out _; (with_reducible repeat (first | refine blk_drewN ?_ _ | refine blk_drew ?_ | refine blk_alloc ?_ _)); exact BK247.out⟩, ⟨by (with_reducible repeat (first | refine blk_drewN ?_ _ | refine blk_drew ?_ | refine blk_alloc ?_ _)); refine blk_put (cs := #[.slice Ao37 t252.length co37, .int .i64 t255, .slice Ao40 t256.length co40, .bool t259, .int .i64 t260, .int .i64 t261]) ?_ 2 _ rfl; (with_reducible repeat (first | refine blk_drewN ?_ _ | refine blk_drew ?_ | refine blk_alloc ?_ _)); exact BK263.out⟩, ⟨qb_ HB.out⟩⟩
                   ·replace c57 := Bool.eq_false_iff.mpr c57
                    subst c57
                    have H1 : (some (([] : List Int), 0, ([] : List ByteArray), false, 0, 0, 50)) = some (r1, r2, r3, r4, r5, r6, r7) := by rw [if_neg (show ¬ (false = true) by decide)] at H; exact H
                    clear H
                    have H := H1
                    clear H1
                    simp only [Option.some.injEq, Prod.mk.injEq] at H
                    obtain ⟨rfl, rfl, rfl, rfl, rfl, rfl, rfl⟩ := H
                    go_wp2_with (first | ((with_reducible refine gate_callee (f := 26) rfl ?_); refine goesL_ (some 99) rfl rfl Tryd.func26 (by kernel_rfl) rfl #[.string (t250.extract 1 ((wrap64 ((t250.size : Int) - 1)) : Int).toNat)] rfl qa_ ?_; (with_reducible refine (letterboxref15_names.calls kj41 (t250.extract 1 ((wrap64 ((t250.size : Int) - 1)) : Int).toNat) t264 false _ A56.out).mono ?_); rintro e w62 ⟨v266, rfl, ho0, hb⟩; refine ⟨_, rfl, ?_⟩; have n0_ := Aside0.mk (Kd.R_below (ql_ HO_264000.out) hb); have n1_ := Aside0.mk (Kd.R_elder' (ql_ HO_264002.out) (Kd.R_base ho0) hb); have n2_ := Aside0.mk (Kd.R_lower (Kd.R_new' ho0 (Kd.R_lt (ql_ HO_264002.out))) (below_size (qb_ HB.out))); have n3_ := Aside0.mk (blk_below (g := gb247) (o := .cells #[.slice none 0 0, .int .i64 x248001_16, .slice none 0 0, .bool x248003_16, .int .i64 x248004_16, .int .i64 x248005_16] 30 (0, 0)) (qk_ BK247.out) hb); have n4_ := Aside0.mk (blk_below (g := gb263) (o := .cells #[.slice Ao37 t252.length co37, .int .i64 t255, .slice Ao40 t256.length co40, .bool t259, .int .i64 t260, .int .i64 t261] 30 (0, 0)) (qk_ BK263.out) hb); have n5_ := Aside0.mk (below_step (qb_ HB.out) hb); clear HO_264000; clear HO_264002; clear BK247; clear BK263; clear HB; have HO_264000 := n0_; have HO_264002 := n1_; have HO267 := n2_; have BK247 := n3_; have BK263 := n4_; have HB := n5_; clear n0_ n1_ n2_ n3_ n4_ n5_; (try clear hb); (try clear hb2); (try clear hk); (try clear hi); (try clear ho0); have hnb63 := NB247_263.out; have hnc63 := NB263_247.out; have hcz64_0 : w62.cell? ⟨gb247, 0, none⟩ = some (.slice none 0 0) := (blk_cell BK247.out 0).trans rfl; have hcz64_1 : w62.cell? ⟨gb247, 1, none⟩ = some (.int .i64 x248001_16) := (blk_cell BK247.out 1).trans rfl; have hcz64_2 : w62.cell? ⟨gb247, 2, none⟩ = some (.slice none 0 0) := (blk_cell BK247.out 2).trans rfl; have hcz64_3 : w62.cell? ⟨gb247, 3, none⟩ = some (.bool x248003_16) := (blk_cell BK247.out 3).trans rfl; have hcz64_4 : w62.cell? ⟨gb247, 4, none⟩ = some (.int .i64 x248004_16) := (blk_cell BK247.out 4).trans rfl; have hcz64_5 : w62.cell? ⟨gb247, 5, none⟩ = some (.int .i64 x248005_16) := (blk_cell BK247.out 5).trans rfl; have hfz64_0 := blk_frozen BK247.out 0; have hfz64_1 := blk_frozen BK247.out 1; have hfz64_2 := blk_frozen BK247.out 2; have hfz64_3 := blk_frozen BK247.out 3; have hfz64_4 := blk_frozen BK247.out 4; have hfz64_5 := blk_frozen BK247.out 5))
                    refine bodyPost_ret (results_ct rfl _ _ gb247 30 #[.slice none 0 0, .int .i64 0, .slice none 0 0, .bool false, .int .i64 0, .int .i64 0] (0, 0) _ rfl (qs6_ (qk_ BK247.out)) Tryd.underlying30 rfl (by kernel_rfl)) rfl ?_
                    exact ⟨_, _, by first | rfl | (simp [errW_none, errW_some] <;> rfl) | (simp only [← hji14]; first | rfl | (simp [errW_none, errW_some] <;> rfl)) | (simp [*, errW_none, errW_some] <;> rfl), qn_, qn_, qb_ HB.out⟩
                  ·rw [if_neg c55] at H
                   exact absurd H (by simp)
                 ·rw [if_neg c54] at H
                  exact absurd H (by simp)
             ·replace c41 := Bool.eq_false_iff.mpr c41
              subst c41
              have H1 : (letterboxref15_Parse.j3 kj16 (a0.extract ((ji14) : Int).toNat a0.size) t252 t255 t256 t259 t260 t261) = some (r1, r2, r3, r4, r5, r6, r7) := by rw [if_neg (show ¬ (false = true) by decide)] at H; exact H
              clear H
              have H := H1
              clear H1
              have H' := Aside0.mk H
              clear H
              go_wp2
              go_meet
              case rel => exact ⟨_, (x248001_16), (x248003_16), (x248004_16), (x248005_16), (t256), (.slice Ao40 t256.length co40), (by first | exact H' | (rw [hji47]; exact H') | (rw [hji24]; exact H') | (rw [hji14]; exact H')), ⟨by have := HJ1.out; have := HJ16.out; first | omega | exact Nat.le_refl _⟩, ⟨by (with_reducible repeat (first | apply Kd.R_alloc | apply Kd.R_drewN | apply Kd.R_drew)); exact Kd.R_mono (Kd.R_far (p := ⟨gb263, 5, none⟩) (Kd.R_far (p := ⟨gb263, 4, none⟩) (Kd.R_far (p := ⟨gb263, 3, none⟩) (Kd.R_far (p := ⟨gb263, 2, none⟩) (Kd.R_far (p := ⟨gb263, 1, none⟩) (Kd.R_far (p := ⟨gb263, 0, none⟩) (Kd.R_types HO254.out BK263.out (by decide)) (fun _ hk => hk.2) (.slice Ao37 t252.length co37)) (fun _ hk => hk.2) (.int .i64 t255)) (fun _ hk => hk.2) (.slice Ao40 t256.length co40)) (fun _ hk => hk.2) (.bool t259)) (fun _ hk => hk.2) (.int .i64 t260)) (fun _ hk => hk.2) (.int .i64 t261)) (fun _ hk => trivial)⟩, ⟨by (with_reducible repeat (first | apply Kd.R_alloc | apply Kd.R_drewN | apply Kd.R_drew)); exact Kd.R_mono (Kd.R_far (p := ⟨gb263, 5, none⟩) (Kd.R_far (p := ⟨gb263, 4, none⟩) (Kd.R_far (p := ⟨gb263, 3, none⟩) (Kd.R_far (p := ⟨gb263, 2, none⟩) (Kd.R_far (p := ⟨gb263, 1, none⟩) (Kd.R_far (p := ⟨gb263, 0, none⟩) (Kd.R_types HO258.out BK263.out (by decide)) (fun _ hk => hk.2) (.slice Ao37 t252.length co37)) (fun _ hk => hk.2) (.int .i64 t255)) (fun _ hk => hk.2) (.slice Ao40 t256.length co40)) (fun _ hk => hk.2) (.bool t259)) (fun _ hk => hk.2) (.int .i64 t260)) (fun _ hk => hk.2) (.int .i64 t261)) (fun _ hk => trivial)⟩, ⟨by (with_reducible repeat (first | refine blk_drewN ?_ _ | refine blk_drew ?_ | refine blk_alloc ?_ _)); refine blk_far ?_ NB247_263.out _; (with_reducible repeat (first | refine blk_drewN ?_ _ | refine blk_drew ?_ | refine blk_alloc ?_ _)); refine blk_far ?_ NB247_263.out _; (with_reducible repeat (first | refine blk_drewN ?_ _ | refine blk_drew ?_ | refine blk_alloc ?_ _)); refine blk_far ?_ NB247_263.out _; (with_reducible repeat (first | refine blk_drewN ?_ _ | refine blk_drew ?_ | refine blk_alloc ?_ _)); refine blk_far ?_ NB247_263.out _; (with_reducible repeat (first | refine blk_drewN ?_ _ | refine blk_drew ?_ | refine blk_alloc ?_ _)); refine blk_far ?_ NB247_263.out _; (with_reducible repeat (first | refine blk_drewN ?_ _ | refine blk_drew ?_ | refine blk_alloc ?_ _)); refine blk_far ?_ NB247_263.out _; (with_reducible repeat (first | refine blk_drewN ?_ _ | refine blk_drew ?_ | refine blk_alloc ?_ _)); exact BK247.out⟩, ⟨by (with_reducible repeat (first | refine blk_drewN ?_ _ | refine blk_drew ?_ | refine blk_alloc ?_ _)); refine blk_put (cs := #[.slice Ao37 t252.length co37, .int .i64 t255, .slice Ao40 t256.length co40, .bool t259, .int .i64 t260, .int .i64 0]) ?_ 5 _ rfl; (with_reducible repeat (first | refine blk_drewN ?_ _ | refine blk_drew ?_ | refine blk_alloc ?_ _)); refine blk_put (cs := #[.slice Ao37 t252.length co37, .int .i64 t255, .slice Ao40 t256.length co40, .bool t259, .int .i64 0, .int .i64 0]) ?_ 4 _ rfl; (with_reducible repeat (first | refine blk_drewN ?_ _ | refine blk_drew ?_ | refine blk_alloc ?_ _)); refine blk_put (cs := #[.slice Ao37 t252.length co37, .int .i64 t255, .slice Ao40 t256.length co40, .bool false, .int .i64 0, .int .i64 0]) ?_ 3 _ rfl; (with_reducible repeat (first | refine blk_drewN ?_ _ | refine blk_drew ?_ | refine blk_alloc ?_ _)); refine blk_put (cs := #[.slice Ao37 t252.length co37, .int .i64 t255, .slice none 0 0, .bool false, .int .i64 0, .int .i64 0]) ?_ 2 _ rfl; (with_reducible repeat (first | refine blk_drewN ?_ _ | refine blk_drew ?_ | refine blk_alloc ?_ _)); refine blk_put (cs := #[.slice Ao37 t252.length co37, .int .i64 0, .slice none 0 0, .bool false, .int .i64 0, .int .i64 0]) ?_ 1 _ rfl; (with_reducible repeat (first | refine blk_drewN ?_ _ | refine blk_drew ?_ | refine blk_alloc ?_ _)); refine blk_put (cs := #[.slice none 0 0, .int .i64 0, .slice none 0 0, .bool false, .int .i64 0, .int .i64 0]) ?_ 0 _ rfl; (with_reducible repeat (first | refine blk_drewN ?_ _ | refine blk_drew ?_ | refine blk_alloc ?_ _)); exact BK263.out⟩, ⟨qb_ HB.out⟩⟩
            case rest =>
             clear HC34
             obtain ⟨kq, x248001_33, x248003_33, x248004_33, x248005_33, x264002_33, u264002, HA, HJ33, HO_264000, HO_264002, BK247, BK263, HB⟩ := hcut
             cases kq with
             | zero => exact absurd HA.out (by simp [letterboxref15_Parse.j3])
             | succ kj33 =>
              have H := HA.out
              clear HA
              simp only [letterboxref15_Parse.j3] at H
              by_cases c65 : (a0.extract ((ji14) : Int).toNat a0.size).toList = ([] : List UInt8)
              ·rw [if_pos c65] at H
               have c65b0 : ((a0.extract ((ji14) : Int).toNat a0.size).toList == ([] : List UInt8)) = true := beq_iff_eq.mpr c65
               have c65b5 : (a0.extract ((ji14) : Int).toNat a0.size).toList.isEmpty = true := List.isEmpty_iff.mpr c65
               have c65b1 : ((a0.extract ((ji14) : Int).toNat a0.size).toList != ([] : List UInt8)) = false := bne_eq_false_iff_eq.mpr c65
               clear c65
               replace H := Option.bind_eq_some_iff.mp H
               obtain ⟨t268, A660, H⟩ := H
               replace H : (if t268 = 0 then (some (t252, t255, x264002_33, t259, t260, t261, 0)) else (some (([] : List Int), 0, ([] : List ByteArray), false, 0, 0, 50))) = some (r1, r2, r3, r4, r5, r6, r7) := H
               have A66 := Aside0.mk A660
               clear A660
               by_cases c67 : t268 = 0
               ·rw [if_pos c67] at H
                have c67b0 : (t268 == 0) = true := beq_iff_eq.mpr c67
                have c67b1 : (t268 != 0) = false := bne_eq_false_iff_eq.mpr c67
                clear c67
                simp only [Option.some.injEq, Prod.mk.injEq] at H
                obtain ⟨rfl, rfl, rfl, rfl, rfl, rfl, rfl⟩ := H
                have hnb68 := NB263_247.out
                have hnc68 := NB247_263.out
                obtain ⟨hcz69_0, hcz69_1, hcz69_2, hcz69_3, hcz69_4, hcz69_5, hfz69_0, hfz69_1, hfz69_2, hfz69_3, hfz69_4, hfz69_5⟩ := cz6_ BK263.out
                obtain ⟨Ao70, co70, eo70⟩ := Kd.R_slice HO_264002.out
                subst eo70
                go_wp2_with (first | ((with_reducible refine gate_callee (f := 13) rfl ?_); refine goesL_ (some 146) rfl rfl Tryd.func13 (by kernel_rfl) rfl #[.agg #[.slice Ao37 t252.length co37, .int .i64 t255, .slice Ao70 x264002_33.length co70, .bool t259, .int .i64 t260, .int .i64 t261]] rfl qa_ ?_; (with_reducible refine (letterboxref15_Check.calls kj33 _ _ t252 t255 _ _ x264002_33 t259 t260 t261 t268 _ ?side1 ?side2 ?side3 ?side4 A66.out).mono ?_); (case side1 => repeat (first | exact (Kd.R_reads' HO_264000.out).2.2 | (with_reducible refine Kd.C_alloc ?_ _) | (with_reducible refine Kd.C_drewN ?_ _) | (with_reducible refine Kd.C_drew ?_))); (case side2 => exact (Kd.R_reads' HO_264000.out).2.1); (case side3 => repeat (first | exact (Kd.R_reads' HO_264002.out).2.2 | (with_reducible refine Kd.C_alloc ?_ _) | (with_reducible refine Kd.C_drewN ?_ _) | (with_reducible refine Kd.C_drew ?_))); (case side4 => exact (Kd.R_reads' HO_264002.out).2.1); rintro e w71 ⟨rfl, hb⟩; refine ⟨_, rfl, ?_⟩; have n0_ := Aside0.mk (Kd.R_below (ql_ HO_264000.out) hb); have n1_ := Aside0.mk (Kd.R_below (ql_ HO_264002.out) hb); have n2_ := Aside0.mk (blk_below (g := gb247) (o := .cells #[.slice none 0 0, .int .i64 x248001_33, .slice none 0 0, .bool x248003_33, .int .i64 x248004_33, .int .i64 x248005_33] 30 (0, 0)) (qk_ BK247.out) hb); have n3_ := Aside0.mk (blk_below (g := gb263) (o := .cells #[.slice Ao37 t252.length co37, .int .i64 t255, .slice Ao70 x264002_33.length co70, .bool t259, .int .i64 t260, .int .i64 t261] 30 (0, 0)) (qk_ BK263.out) hb); have n4_ := Aside0.mk (below_step (qb_ HB.out) hb); clear HO_264000; clear HO_264002; clear BK247; clear BK263; clear HB; have HO_264000 := n0_; have HO_264002 := n1_; have BK247 := n2_; have BK263 := n3_; have HB := n4_; clear n0_ n1_ n2_ n3_ n4_; (try clear hb); (try clear hb2); (try clear hk); (try clear hi); have hcz72_0 : w71.cell? ⟨gb263, 0, none⟩ = some (.slice Ao37 t252.length co37) := (blk_cell BK263.out 0).trans rfl; have hcz72_1 : w71.cell? ⟨gb263, 1, none⟩ = some (.int .i64 t255) := (blk_cell BK263.out 1).trans rfl; have hcz72_2 : w71.cell? ⟨gb263, 2, none⟩ = some (.slice Ao70 x264002_33.length co70) := (blk_cell BK263.out 2).trans rfl; have hcz72_3 : w71.cell? ⟨gb263, 3, none⟩ = some (.bool t259) := (blk_cell BK263.out 3).trans rfl; have hcz72_4 : w71.cell? ⟨gb263, 4, none⟩ = some (.int .i64 t260) := (blk_cell BK263.out 4).trans rfl; have hcz72_5 : w71.cell? ⟨gb263, 5, none⟩ = some (.int .i64 t261) := (blk_cell BK263.out 5).trans rfl; have hfz72_0 := blk_frozen BK263.out 0; have hfz72_1 := blk_frozen BK263.out 1; have hfz72_2 := blk_frozen BK263.out 2; have hfz72_3 := blk_frozen BK263.out 3; have hfz72_4 := blk_frozen BK263.out 4; have hfz72_5 := blk_frozen BK263.out 5; have hcz73_0 : w71.cell? ⟨gb247, 0, none⟩ = some (.slice none 0 0) := (blk_cell BK247.out 0).trans rfl; have hcz73_1 : w71.cell? ⟨gb247, 1, none⟩ = some (.int .i64 x248001_33) := (blk_cell BK247.out 1).trans rfl; have hcz73_2 : w71.cell? ⟨gb247, 2, none⟩ = some (.slice none 0 0) := (blk_cell BK247.out 2).trans rfl; have hcz73_3 : w71.cell? ⟨gb247, 3, none⟩ = some (.bool x248003_33) := (blk_cell BK247.out 3).trans rfl; have hcz73_4 : w71.cell? ⟨gb247, 4, none⟩ = some (.int .i64 x248004_33) := (blk_cell BK247.out 4).trans rfl; have hcz73_5 : w71.cell? ⟨gb247, 5, none⟩ = some (.int .i64 x248005_33) := (blk_cell BK247.out 5).trans rfl; have hfz73_0 := blk_frozen BK247.out 0; have hfz73_1 := blk_frozen BK247.out 1; have hfz73_2 := blk_frozen BK247.out 2; have hfz73_3 := blk_frozen BK247.out 3; have hfz73_4 := blk_frozen BK247.out 4; have hfz73_5 := blk_frozen BK247.out 5))
                refine bodyPost_ret (results_ct rfl _ _ gb247 30 #[.slice Ao37 t252.length co37, .int .i64 t255, .slice Ao70 x264002_33.length co70, .bool t259, .int .i64 t260, .int .i64 t261] (0, 0) _ rfl (qs6_ (qk_ BK247.out)) Tryd.underlying30 rfl (by kernel_rfl)) rfl ?_
                exact ⟨_, _, by first | rfl | (simp [errW_none, errW_some] <;> rfl) | (simp only [← hji14]; first | rfl | (simp [errW_none, errW_some] <;> rfl)) | (simp [*, errW_none, errW_some] <;> rfl), by (with_reducible repeat (first | apply Kd.R_alloc | apply Kd.R_drewN | apply Kd.R_drew)); exact Kd.R_mono (Kd.R_far (p := ⟨gb247, 5, none⟩) (Kd.R_far (p := ⟨gb247, 4, none⟩) (Kd.R_far (p := ⟨gb247, 3, none⟩) (Kd.R_far (p := ⟨gb247, 2, none⟩) (Kd.R_far (p := ⟨gb247, 1, none⟩) (Kd.R_far (p := ⟨gb247, 0, none⟩) (Kd.R_types HO_264000.out BK247.out (by decide)) (fun _ hk => hk.2) (.slice Ao37 t252.length co37)) (fun _ hk => hk.2) (.int .i64 t255)) (fun _ hk => hk.2) (.slice Ao70 x264002_33.length co70)) (fun _ hk => hk.2) (.bool t259)) (fun _ hk => hk.2) (.int .i64 t260)) (fun _ hk => hk.2) (.int .i64 t261)) (fun _ hk => trivial), by (with_reducible repeat (first | apply Kd.R_alloc | apply Kd.R_drewN | apply Kd.R_drew)); exact Kd.R_mono (Kd.R_far (p := ⟨gb247, 5, none⟩) (Kd.R_far (p := ⟨gb247, 4, none⟩) (Kd.R_far (p := ⟨gb247, 3, none⟩) (Kd.R_far (p := ⟨gb247, 2, none⟩) (Kd.R_far (p := ⟨gb247, 1, none⟩) (Kd.R_far (p := ⟨gb247, 0, none⟩) (Kd.R_types HO_264002.out BK247.out (by decide)) (fun _ hk => hk.2) (.slice Ao37 t252.length co37)) (fun _ hk => hk.2) (.int .i64 t255)) (fun _ hk => hk.2) (.slice Ao70 x264002_33.length co70)) (fun _ hk => hk.2) (.bool t259)) (fun _ hk => hk.2) (.int .i64 t260)) (fun _ hk => hk.2) (.int .i64 t261)) (fun _ hk => trivial), qb_ HB.out⟩
               ·rw [if_neg c67] at H
                have c67b0 : (t268 == 0) = false := beq_eq_false_iff_ne.mpr c67
                have c67b1 : (t268 != 0) = true := bne_iff_ne.mpr c67
                simp only [Option.some.injEq, Prod.mk.injEq] at H
                obtain ⟨rfl, rfl, rfl, rfl, rfl, rfl, rfl⟩ := H
                have hnb74 := NB263_247.out
                have hnc74 := NB247_263.out
                obtain ⟨hcz75_0, hcz75_1, hcz75_2, hcz75_3, hcz75_4, hcz75_5, hfz75_0, hfz75_1, hfz75_2, hfz75_3, hfz75_4, hfz75_5⟩ := cz6_ BK263.out
                obtain ⟨Ao76, co76, eo76⟩ := Kd.R_slice HO_264002.out
                subst eo76
                go_wp2_with (first | ((with_reducible refine gate_callee (f := 13) rfl ?_); refine goesL_ (some 146) rfl rfl Tryd.func13 (by kernel_rfl) rfl #[.agg #[.slice Ao37 t252.length co37, .int .i64 t255, .slice Ao76 x264002_33.length co76, .bool t259, .int .i64 t260, .int .i64 t261]] rfl qa_ ?_; (with_reducible refine (letterboxref15_Check.calls kj33 _ _ t252 t255 _ _ x264002_33 t259 t260 t261 t268 _ ?side1 ?side2 ?side3 ?side4 A66.out).mono ?_); (case side1 => repeat (first | exact (Kd.R_reads' HO_264000.out).2.2 | (with_reducible refine Kd.C_alloc ?_ _) | (with_reducible refine Kd.C_drewN ?_ _) | (with_reducible refine Kd.C_drew ?_))); (case side2 => exact (Kd.R_reads' HO_264000.out).2.1); (case side3 => repeat (first | exact (Kd.R_reads' HO_264002.out).2.2 | (with_reducible refine Kd.C_alloc ?_ _) | (with_reducible refine Kd.C_drewN ?_ _) | (with_reducible refine Kd.C_drew ?_))); (case side4 => exact (Kd.R_reads' HO_264002.out).2.1); rintro e w77 ⟨rfl, hb⟩; refine ⟨_, rfl, ?_⟩; have n0_ := Aside0.mk (Kd.R_below (ql_ HO_264000.out) hb); have n1_ := Aside0.mk (Kd.R_below (ql_ HO_264002.out) hb); have n2_ := Aside0.mk (blk_below (g := gb247) (o := .cells #[.slice none 0 0, .int .i64 x248001_33, .slice none 0 0, .bool x248003_33, .int .i64 x248004_33, .int .i64 x248005_33] 30 (0, 0)) (qk_ BK247.out) hb); have n3_ := Aside0.mk (blk_below (g := gb263) (o := .cells #[.slice Ao37 t252.length co37, .int .i64 t255, .slice Ao76 x264002_33.length co76, .bool t259, .int .i64 t260, .int .i64 t261] 30 (0, 0)) (qk_ BK263.out) hb); have n4_ := Aside0.mk (below_step (qb_ HB.out) hb); clear HO_264000; clear HO_264002; clear BK247; clear BK263; clear HB; have HO_264000 := n0_; have HO_264002 := n1_; have BK247 := n2_; have BK263 := n3_; have HB := n4_; clear n0_ n1_ n2_ n3_ n4_; (try clear hb); (try clear hb2); (try clear hk); (try clear hi); have hcz78_0 : w77.cell? ⟨gb247, 0, none⟩ = some (.slice none 0 0) := (blk_cell BK247.out 0).trans rfl; have hcz78_1 : w77.cell? ⟨gb247, 1, none⟩ = some (.int .i64 x248001_33) := (blk_cell BK247.out 1).trans rfl; have hcz78_2 : w77.cell? ⟨gb247, 2, none⟩ = some (.slice none 0 0) := (blk_cell BK247.out 2).trans rfl; have hcz78_3 : w77.cell? ⟨gb247, 3, none⟩ = some (.bool x248003_33) := (blk_cell BK247.out 3).trans rfl; have hcz78_4 : w77.cell? ⟨gb247, 4, none⟩ = some (.int .i64 x248004_33) := (blk_cell BK247.out 4).trans rfl; have hcz78_5 : w77.cell? ⟨gb247, 5, none⟩ = some (.int .i64 x248005_33) := (blk_cell BK247.out 5).trans rfl; have hfz78_0 := blk_frozen BK247.out 0; have hfz78_1 := blk_frozen BK247.out 1; have hfz78_2 := blk_frozen BK247.out 2; have hfz78_3 := blk_frozen BK247.out 3; have hfz78_4 := blk_frozen BK247.out 4; have hfz78_5 := blk_frozen BK247.out 5))
                refine bodyPost_ret (results_ct rfl _ _ gb247 30 #[.slice none 0 0, .int .i64 0, .slice none 0 0, .bool false, .int .i64 0, .int .i64 0] (0, 0) _ rfl (qs6_ (qk_ BK247.out)) Tryd.underlying30 rfl (by kernel_rfl)) rfl ?_
                exact ⟨_, _, by first | rfl | (simp [errW_none, errW_some] <;> rfl) | (simp only [← hji14]; first | rfl | (simp [errW_none, errW_some] <;> rfl)) | (simp [*, errW_none, errW_some] <;> rfl), qn_, qn_, qb_ HB.out⟩
              ·rw [if_neg c65] at H
               have c65b0 : ((a0.extract ((ji14) : Int).toNat a0.size).toList == ([] : List UInt8)) = false := beq_eq_false_iff_ne.mpr c65
               have c65b5 : (a0.extract ((ji14) : Int).toNat a0.size).toList.isEmpty = false := List.isEmpty_eq_false_iff.mpr c65
               have c65b1 : ((a0.extract ((ji14) : Int).toNat a0.size).toList != ([] : List UInt8)) = true := bne_iff_ne.mpr c65
               by_cases c79 : 1 ≤ (wrap64 (((a0.extract ((ji14) : Int).toNat a0.size).size : Int) - 1))
               ·rw [if_pos c79] at H
                have c79b0 := eq_true c79
                have c79b1 : decide (1 ≤ (wrap64 (((a0.extract ((ji14) : Int).toNat a0.size).size : Int) - 1))) = true := decide_eq_true c79
                clear c79
                by_cases c80 : (wrap64 (((a0.extract ((ji14) : Int).toNat a0.size).size : Int) - 1)) ≤ ((a0.extract ((ji14) : Int).toNat a0.size).size : Int)
                ·rw [if_pos c80] at H
                 have c80b0 := eq_true c80
                 have c80b1 : decide ((wrap64 (((a0.extract ((ji14) : Int).toNat a0.size).size : Int) - 1)) ≤ ((a0.extract ((ji14) : Int).toNat a0.size).size : Int)) = true := decide_eq_true c80
                 clear c80
                 replace H := Option.bind_eq_some_iff.mp H
                 obtain ⟨⟨t269, t270, t271⟩, A810, H⟩ := H
                 replace H : ((letterboxref01_Number.f kj33 t269).bind fun bt272 => ((letterboxref01_Number.f kj33 t270).bind fun bt274 => (if t271 = true then (if bt272.2 = true then (letterboxref15_Parse.j4 kj33 bt272.1 bt274.1 (!bt274.2) t252 t255 x264002_33 t259 t260 t261) else (letterboxref15_Parse.j4 kj33 bt272.1 bt274.1 true t252 t255 x264002_33 t259 t260 t261)) else (letterboxref15_Parse.j4 kj33 bt272.1 bt274.1 true t252 t255 x264002_33 t259 t260 t261)))) = some (r1, r2, r3, r4, r5, r6, r7) := H
                 have A81 := Aside0.mk A810
                 clear A810
                 replace H := Option.bind_eq_some_iff.mp H
                 obtain ⟨⟨t272, t273⟩, A820, H⟩ := H
                 replace H : ((letterboxref01_Number.f kj33 t270).bind fun bt274 => (if t271 = true then (if t273 = true then (letterboxref15_Parse.j4 kj33 t272 bt274.1 (!bt274.2) t252 t255 x264002_33 t259 t260 t261) else (letterboxref15_Parse.j4 kj33 t272 bt274.1 true t252 t255 x264002_33 t259 t260 t261)) else (letterboxref15_Parse.j4 kj33 t272 bt274.1 true t252 t255 x264002_33 t259 t260 t261))) = some (r1, r2, r3, r4, r5, r6, r7) := H
                 have A82 := Aside0.mk A820
                 clear A820
                 replace H := Option.bind_eq_some_iff.mp H
                 obtain ⟨⟨t274, t275⟩, A830, H⟩ := H
                 replace H : (if t271 = true then (if t273 = true then (letterboxref15_Parse.j4 kj33 t272 t274 (!t275) t252 t255 x264002_33 t259 t260 t261) else (letterboxref15_Parse.j4 kj33 t272 t274 true t252 t255 x264002_33 t259 t260 t261)) else (letterboxref15_Parse.j4 kj33 t272 t274 true t252 t255 x264002_33 t259 t260 t261)) = some (r1, r2, r3, r4, r5, r6, r7) := H
                 have A83 := Aside0.mk A830
                 clear A830
                 have HC84 := Aside0.mk H
                 clear H
                 go_upto_region 27 with (first | ((with_reducible refine gate_callee (f := 24) rfl ?_); refine goesL_ (some 115) rfl rfl Tryd.func24 (by kernel_rfl) rfl #[.string ((a0.extract ((ji14) : Int).toNat a0.size).extract 1 ((wrap64 (((a0.extract ((ji14) : Int).toNat a0.size).size : Int) - 1)) : Int).toNat), .int .u8 46] rfl (by (try simp only [List.map_toArray, List.map_cons, List.map_nil]); first | done | (simp only [hji14]; rfl) | rfl | (simp only [List.length_drop, List.length_take]; rfl)) ?_; (with_reducible refine (letterboxref15_head.calls kj33 ((a0.extract ((ji14) : Int).toNat a0.size).extract 1 ((wrap64 (((a0.extract ((ji14) : Int).toNat a0.size).size : Int) - 1)) : Int).toNat) 46 t269 t270 t271 _ A81.out).mono ?_); rintro e w' ⟨rfl, ⟨nd, rfl⟩⟩; refine ⟨_, rfl, ?_⟩) | ((with_reducible refine gate_callee (f := 27) rfl ?_); refine goesL_ (some 121) rfl rfl Tryd.func27 (by kernel_rfl) rfl #[.string t269] rfl qa_ ?_; (with_reducible refine (letterboxref01_Number.calls kj33 t269 t272 t273 _ A82.out).mono ?_); rintro e w' ⟨rfl, ⟨nd, rfl⟩⟩; refine ⟨_, rfl, ?_⟩) | ((with_reducible refine gate_callee (f := 27) rfl ?_); refine goesL_ (some 126) rfl rfl Tryd.func27 (by kernel_rfl) rfl #[.string t270] rfl qa_ ?_; (with_reducible refine (letterboxref01_Number.calls kj33 t270 t274 t275 _ A83.out).mono ?_); rintro e w' ⟨rfl, ⟨nd, rfl⟩⟩; refine ⟨_, rfl, ?_⟩))
                 (try simp only [Act.put, List.setIfInBounds_toArray, List.set_cons_zero, List.set_cons_succ])
                 go_cut [138] (fun v138 wc => ∃ (kq : Nat) (x138_83 : Bool), v138 = .bool x138_83 ∧ Aside0 (letterboxref15_Parse.j4 kq t272 t274 x138_83 t252 t255 x264002_33 t259 t260 t261 = some (r1, r2, r3, r4, r5, r6, r7)) ∧ Aside0 (kq ≤ kj33) ∧ Aside0 (Kd.R (Kd.int .i64) 3 wc w.heap.size (fun _ => True) (.slice Ao37 t252.length co37) t252) ∧ Aside0 (Kd.R Kd.string 9 wc w.heap.size (fun _ => True) u264002 x264002_33) ∧ Aside0 (wc.heap[gb247]? = some (.cells #[(.slice none 0 0), .int .i64 x248001_33, (.slice none 0 0), .bool x248003_33, .int .i64 x248004_33, .int .i64 x248005_33] 30 (0, 0))) ∧ Aside0 (wc.heap[gb263]? = some (.cells #[(.slice Ao37 t252.length co37), .int .i64 t255, u264002, .bool t259, .int .i64 t260, .int .i64 t261] 30 (0, 0))) ∧ Aside0 (Below w.heap.size w wc))
                 case first =>
                  have H := HC84.out
                  clear HC84
                  by_cases c85 : t271 = true
                  ·subst c85
                   have H1 : (if t273 = true then (letterboxref15_Parse.j4 kj33 t272 t274 (!t275) t252 t255 x264002_33 t259 t260 t261) else (letterboxref15_Parse.j4 kj33 t272 t274 true t252 t255 x264002_33 t259 t260 t261)) = some (r1, r2, r3, r4, r5, r6, r7) := by rw [if_pos rfl] at H; exact H
                   clear H
                   have H := H1
                   clear H1
                   by_cases c86 : t273 = true
                   ·subst c86
                    have H1 : (letterboxref15_Parse.j4 kj33 t272 t274 (!t275) t252 t255 x264002_33 t259 t260 t261) = some (r1, r2, r3, r4, r5, r6, r7) := by rw [if_pos rfl] at H; exact H
                    clear H
                    have H := H1
                    clear H1
                    have H' := Aside0.mk H
                    clear H
                    go_wp2
                    go_meet
                    case rel => exact ⟨_, (!t275), qr_, (by first | exact H' | (rw [hji47]; exact H') | (rw [hji24]; exact H') | (rw [hji14]; exact H')), ⟨by have := HJ1.out; have := HJ16.out; have := HJ33.out; first | omega | exact Nat.le_refl _⟩, ⟨ql_ HO_264000.out⟩, ⟨ql_ HO_264002.out⟩, ⟨qk_ BK247.out⟩, ⟨qk_ BK263.out⟩, ⟨qb_ HB.out⟩⟩
                   ·replace c86 := Bool.eq_false_iff.mpr c86
                    subst c86
                    have H1 : (letterboxref15_Parse.j4 kj33 t272 t274 true t252 t255 x264002_33 t259 t260 t261) = some (r1, r2, r3, r4, r5, r6, r7) := by rw [if_neg (show ¬ (false = true) by decide)] at H; exact H
                    clear H
                    have H := H1
                    clear H1
                    have H' := Aside0.mk H
                    clear H
                    go_wp2
                    go_meet
                    case rel => exact ⟨_, (true), qr_, (by first | exact H' | (rw [hji47]; exact H') | (rw [hji24]; exact H') | (rw [hji14]; exact H')), ⟨by have := HJ1.out; have := HJ16.out; have := HJ33.out; first | omega | exact Nat.le_refl _⟩, ⟨ql_ HO_264000.out⟩, ⟨ql_ HO_264002.out⟩, ⟨qk_ BK247.out⟩, ⟨qk_ BK263.out⟩, ⟨qb_ HB.out⟩⟩
                  ·replace c85 := Bool.eq_false_iff.mpr c85
                   subst c85
                   have H1 : (letterboxref15_Parse.j4 kj33 t272 t274 true t252 t255 x264002_33 t259 t260 t261) = some (r1, r2, r3, r4, r5, r6, r7) := by rw [if_neg (show ¬ (false = true) by decide)] at H; exact H
                   clear H
                   have H := H1
                   clear H1
                   have H' := Aside0.mk H
                   clear H
                   go_wp2
                   go_meet
                   case rel => exact ⟨_, (true), qr_, (by first | exact H' | (rw [hji47]; exact H') | (rw [hji24]; exact H') | (rw [hji14]; exact H')), ⟨by have := HJ1.out; have := HJ16.out; have := HJ33.out; first | omega | exact Nat.le_refl _⟩, ⟨ql_ HO_264000.out⟩, ⟨ql_ HO_264002.out⟩, ⟨qk_ BK247.out⟩, ⟨qk_ BK263.out⟩, ⟨qb_ HB.out⟩⟩
                 case rest =>
                  clear HC84
                  (try clear c65b0 c65b1 c79b0 c79b1)
                  obtain ⟨kq, x138_83, rfl, HA, HJ83, HO_264000, HO_264002, BK247, BK263, HB⟩ := hcut
                  cases kq with
                  | zero => exact absurd HA.out (by simp [letterboxref15_Parse.j4])
                  | succ kj83 =>
                   have H := HA.out
                   clear HA
                   simp only [letterboxref15_Parse.j4] at H
                   by_cases c87 : x138_83 = true
                   ·subst c87
                    have H1 : (some (([] : List Int), 0, ([] : List ByteArray), false, 0, 0, 50)) = some (r1, r2, r3, r4, r5, r6, r7) := by rw [if_pos rfl] at H; exact H
                    clear H
                    have H := H1
                    clear H1
                    simp only [Option.some.injEq, Prod.mk.injEq] at H
                    obtain ⟨rfl, rfl, rfl, rfl, rfl, rfl, rfl⟩ := H
                    have hnb88 := NB247_263.out
                    have hnc88 := NB263_247.out
                    obtain ⟨hcz89_0, hcz89_1, hcz89_2, hcz89_3, hcz89_4, hcz89_5, hfz89_0, hfz89_1, hfz89_2, hfz89_3, hfz89_4, hfz89_5⟩ := cz6_ BK247.out
                    go_wp2
                    refine bodyPost_ret (results_ct rfl _ _ gb247 30 #[.slice none 0 0, .int .i64 0, .slice none 0 0, .bool false, .int .i64 0, .int .i64 0] (0, 0) _ rfl (qs6_ (qk_ BK247.out)) Tryd.underlying30 rfl (by kernel_rfl)) rfl ?_
                    exact ⟨_, _, by first | rfl | (simp [errW_none, errW_some] <;> rfl) | (simp only [← hji14]; first | rfl | (simp [errW_none, errW_some] <;> rfl)) | (simp [*, errW_none, errW_some] <;> rfl), qn_, qn_, qb_ HB.out⟩
                   ·replace c87 := Bool.eq_false_iff.mpr c87
                    subst c87
                    have H1 : ((letterboxref15_Check.f kj83 t252 t255 x264002_33 true t272 t274).bind fun t276 => (if t276 = 0 then (some (t252, t255, x264002_33, true, t272, t274, 0)) else (some (([] : List Int), 0, ([] : List ByteArray), false, 0, 0, 50)))) = some (r1, r2, r3, r4, r5, r6, r7) := by rw [if_neg (show ¬ (false = true) by decide)] at H; exact H
                    clear H
                    have H := H1
                    clear H1
                    replace H := Option.bind_eq_some_iff.mp H
                    obtain ⟨t276, A900, H⟩ := H
                    replace H : (if t276 = 0 then (some (t252, t255, x264002_33, true, t272, t274, 0)) else (some (([] : List Int), 0, ([] : List ByteArray), false, 0, 0, 50))) = some (r1, r2, r3, r4, r5, r6, r7) := H
                    have A90 := Aside0.mk A900
                    clear A900
                    by_cases c91 : t276 = 0
                    ·rw [if_pos c91] at H
                     have c91b0 : (t276 == 0) = true := beq_iff_eq.mpr c91
                     have c91b1 : (t276 != 0) = false := bne_eq_false_iff_eq.mpr c91
                     clear c91
                     simp only [Option.some.injEq, Prod.mk.injEq] at H
                     obtain ⟨rfl, rfl, rfl, rfl, rfl, rfl, rfl⟩ := H
                     have hnb92 := NB263_247.out
                     have hnc92 := NB247_263.out
                     obtain ⟨hcz93_0, hcz93_1, hcz93_2, hcz93_3, hcz93_4, hcz93_5, hfz93_0, hfz93_1, hfz93_2, hfz93_3, hfz93_4, hfz93_5⟩ := cz6_ BK263.out
                     obtain ⟨Ao94, co94, eo94⟩ := Kd.R_slice HO_264002.out
                     subst eo94
                     go_wp2_with (first | ((with_reducible refine gate_callee (f := 13) rfl ?_); refine goesL_ (some 146) rfl rfl Tryd.func13 (by kernel_rfl) rfl #[.agg #[.slice Ao37 t252.length co37, .int .i64 t255, .slice Ao94 x264002_33.length co94, .bool true, .int .i64 t272, .int .i64 t274]] rfl qa_ ?_; (with_reducible refine (letterboxref15_Check.calls kj83 _ _ t252 t255 _ _ x264002_33 true t272 t274 t276 _ ?side1 ?side2 ?side3 ?side4 A90.out).mono ?_); (case side1 => refine (Kd.R_reads' (e := 3) (base := w.heap.size) (ok := fun k_ => True) (n := t252.length) (c := co37) ?_).2.2; exact (by (with_reducible repeat (first | apply Kd.R_alloc | apply Kd.R_drewN | apply Kd.R_drew)); exact (Kd.R_mono (Kd.R_far (p := ⟨gb263, 5, none⟩) (Kd.R_far (p := ⟨gb263, 4, none⟩) (Kd.R_far (p := ⟨gb263, 3, none⟩) (Kd.R_types HO_264000.out BK263.out (by decide)) (fun _ hk => hk.2) (.bool true)) (fun _ hk => hk.2) (.int .i64 t272)) (fun _ hk => hk.2) (.int .i64 t274)) (fun _ h_ => h_.1)))); (case side2 => exact (Kd.R_reads' HO_264000.out).2.1); (case side3 => refine (Kd.R_reads' (e := 9) (base := w.heap.size) (ok := fun k_ => True) (n := x264002_33.length) (c := co94) ?_).2.2; exact (by (with_reducible repeat (first | apply Kd.R_alloc | apply Kd.R_drewN | apply Kd.R_drew)); exact (Kd.R_mono (Kd.R_far (p := ⟨gb263, 5, none⟩) (Kd.R_far (p := ⟨gb263, 4, none⟩) (Kd.R_far (p := ⟨gb263, 3, none⟩) (Kd.R_types HO_264002.out BK263.out (by decide)) (fun _ hk => hk.2) (.bool true)) (fun _ hk => hk.2) (.int .i64 t272)) (fun _ hk => hk.2) (.int .i64 t274)) (fun _ h_ => h_.1)))); (case side4 => exact (Kd.R_reads' HO_264002.out).2.1); rintro e w95 ⟨rfl, hb⟩; refine ⟨_, rfl, ?_⟩; have n0_ := Aside0.mk (Kd.R_below (by (with_reducible repeat (first | apply Kd.R_alloc | apply Kd.R_drewN | apply Kd.R_drew)); exact (Kd.R_mono (Kd.R_far (p := ⟨gb263, 5, none⟩) (Kd.R_far (p := ⟨gb263, 4, none⟩) (Kd.R_far (p := ⟨gb263, 3, none⟩) (Kd.R_types HO_264000.out BK263.out (by decide)) (fun _ hk => hk.2) (.bool true)) (fun _ hk => hk.2) (.int .i64 t272)) (fun _ hk => hk.2) (.int .i64 t274)) (fun _ h_ => h_.1))) hb); have n1_ := Aside0.mk (Kd.R_below (by (with_reducible repeat (first | apply Kd.R_alloc | apply Kd.R_drewN | apply Kd.R_drew)); exact (Kd.R_mono (Kd.R_far (p := ⟨gb263, 5, none⟩) (Kd.R_far (p := ⟨gb263, 4, none⟩) (Kd.R_far (p := ⟨gb263, 3, none⟩) (Kd.R_types HO_264002.out BK263.out (by decide)) (fun _ hk => hk.2) (.bool true)) (fun _ hk => hk.2) (.int .i64 t272)) (fun _ hk => hk.2) (.int .i64 t274)) (fun _ h_ => h_.1))) hb); have n2_ := Aside0.mk (blk_below (g := gb247) (o := .cells #[.slice none 0 0, .int .i64 x248001_33, .slice none 0 0, .bool x248003_33, .int .i64 x248004_33, .int .i64 x248005_33] 30 (0, 0)) (by (with_reducible repeat (first | refine blk_drewN ?_ _ | refine blk_drew ?_ | refine blk_alloc ?_ _)); refine blk_far ?_ NB247_263.out _; (with_reducible repeat (first | refine blk_drewN ?_ _ | refine blk_drew ?_ | refine blk_alloc ?_ _)); refine blk_far ?_ NB247_263.out _; (with_reducible repeat (first | refine blk_drewN ?_ _ | refine blk_drew ?_ | refine blk_alloc ?_ _)); refine blk_far ?_ NB247_263.out _; (with_reducible repeat (first | refine blk_drewN ?_ _ | refine blk_drew ?_ | refine blk_alloc ?_ _)); exact BK247.out) hb); have n3_ := Aside0.mk (blk_below (g := gb263) (o := .cells #[.slice Ao37 t252.length co37, .int .i64 t255, .slice Ao94 x264002_33.length co94, .bool true, .int .i64 t272, .int .i64 t274] 30 (0, 0)) (by (with_reducible repeat (first | refine blk_drewN ?_ _ | refine blk_drew ?_ | refine blk_alloc ?_ _)); refine blk_put (cs := #[.slice Ao37 t252.length co37, .int .i64 t255, .slice Ao94 x264002_33.length co94, .bool true, .int .i64 t272, .int .i64 t261]) ?_ 5 _ rfl; (with_reducible repeat (first | refine blk_drewN ?_ _ | refine blk_drew ?_ | refine blk_alloc ?_ _)); refine blk_put (cs := #[.slice Ao37 t252.length co37, .int .i64 t255, .slice Ao94 x264002_33.length co94, .bool true, .int .i64 t260, .int .i64 t261]) ?_ 4 _ rfl; (with_reducible repeat (first | refine blk_drewN ?_ _ | refine blk_drew ?_ | refine blk_alloc ?_ _)); refine blk_put (cs := #[.slice Ao37 t252.length co37, .int .i64 t255, .slice Ao94 x264002_33.length co94, .bool t259, .int .i64 t260, .int .i64 t261]) ?_ 3 _ rfl; (with_reducible repeat (first | refine blk_drewN ?_ _ | refine blk_drew ?_ | refine blk_alloc ?_ _)); exact BK263.out) hb); have n4_ := Aside0.mk (below_step (qb_ HB.out) hb); clear HO_264000; clear HO_264002; clear BK247; clear BK263; clear HB; have HO_264000 := n0_; have HO_264002 := n1_; have BK247 := n2_; have BK263 := n3_; have HB := n4_; clear n0_ n1_ n2_ n3_ n4_; (try clear hb); (try clear hb2); (try clear hk); (try clear hi); have hcz96_0 : w95.cell? ⟨gb263, 0, none⟩ = some (.slice Ao37 t252.length co37) := (blk_cell BK263.out 0).trans rfl; have hcz96_1 : w95.cell? ⟨gb263, 1, none⟩ = some (.int .i64 t255) := (blk_cell BK263.out 1).trans rfl; have hcz96_2 : w95.cell? ⟨gb263, 2, none⟩ = some (.slice Ao94 x264002_33.length co94) := (blk_cell BK263.out 2).trans rfl; have hcz96_3 : w95.cell? ⟨gb263, 3, none⟩ = some (.bool true) := (blk_cell BK263.out 3).trans rfl; have hcz96_4 : w95.cell? ⟨gb263, 4, none⟩ = some (.int .i64 t272) := (blk_cell BK263.out 4).trans rfl; have hcz96_5 : w95.cell? ⟨gb263, 5, none⟩ = some (.int .i64 t274) := (blk_cell BK263.out 5).trans rfl; have hfz96_0 := blk_frozen BK263.out 0; have hfz96_1 := blk_frozen BK263.out 1; have hfz96_2 := blk_frozen BK263.out 2; have hfz96_3 := blk_frozen BK263.out 3; have hfz96_4 := blk_frozen BK263.out 4; have hfz96_5 := blk_frozen BK263.out 5; have hcz97_0 : w95.cell? ⟨gb247, 0, none⟩ = some (.slice none 0 0) := (blk_cell BK247.out 0).trans rfl; have hcz97_1 : w95.cell? ⟨gb247, 1, none⟩ = some (.int .i64 x248001_33) := (blk_cell BK247.out 1).trans rfl; have hcz97_2 : w95.cell? ⟨gb247, 2, none⟩ = some (.slice none 0 0) := (blk_cell BK247.out 2).trans rfl; have hcz97_3 : w95.cell? ⟨gb247, 3, none⟩ = some (.bool x248003_33) := (blk_cell BK247.out 3).trans rfl; have hcz97_4 : w95.cell? ⟨gb247, 4, none⟩ = some (.int .i64 x248004_33) := (blk_cell BK247.out 4).trans rfl; have hcz97_5 : w95.cell? ⟨gb247, 5, none⟩ = some (.int .i64 x248005_33) := (blk_cell BK247.out 5).trans rfl; have hfz97_0 := blk_frozen BK247.out 0; have hfz97_1 := blk_frozen BK247.out 1; have hfz97_2 := blk_frozen BK247.out 2; have hfz97_3 := blk_frozen BK247.out 3; have hfz97_4 := blk_frozen BK247.out 4; have hfz97_5 := blk_frozen BK247.out 5))
                     refine bodyPost_ret (results_ct rfl _ _ gb247 30 #[.slice Ao37 t252.length co37, .int .i64 t255, .slice Ao94 x264002_33.length co94, .bool true, .int .i64 t272, .int .i64 t274] (0, 0) _ rfl (qs6_ (qk_ BK247.out)) Tryd.underlying30 rfl (by kernel_rfl)) rfl ?_
                     exact ⟨_, _, by first | rfl | (simp [errW_none, errW_some] <;> rfl) | (simp only [← hji14]; first | rfl | (simp [errW_none, errW_some] <;> rfl)) | (simp [*, errW_none, errW_some] <;> rfl), by (with_reducible repeat (first | apply Kd.R_alloc | apply Kd.R_drewN | apply Kd.R_drew)); exact Kd.R_mono (Kd.R_far (p := ⟨gb247, 5, none⟩) (Kd.R_far (p := ⟨gb247, 4, none⟩) (Kd.R_far (p := ⟨gb247, 3, none⟩) (Kd.R_far (p := ⟨gb247, 2, none⟩) (Kd.R_far (p := ⟨gb247, 1, none⟩) (Kd.R_far (p := ⟨gb247, 0, none⟩) (Kd.R_types HO_264000.out BK247.out (by decide)) (fun _ hk => hk.2) (.slice Ao37 t252.length co37)) (fun _ hk => hk.2) (.int .i64 t255)) (fun _ hk => hk.2) (.slice Ao94 x264002_33.length co94)) (fun _ hk => hk.2) (.bool true)) (fun _ hk => hk.2) (.int .i64 t272)) (fun _ hk => hk.2) (.int .i64 t274)) (fun _ hk => trivial), by (with_reducible repeat (first | apply Kd.R_alloc | apply Kd.R_drewN | apply Kd.R_drew)); exact Kd.R_mono (Kd.R_far (p := ⟨gb247, 5, none⟩) (Kd.R_far (p := ⟨gb247, 4, none⟩) (Kd.R_far (p := ⟨gb247, 3, none⟩) (Kd.R_far (p := ⟨gb247, 2, none⟩) (Kd.R_far (p := ⟨gb247, 1, none⟩) (Kd.R_far (p := ⟨gb247, 0, none⟩) (Kd.R_types HO_264002.out BK247.out (by decide)) (fun _ hk => hk.2) (.slice Ao37 t252.length co37)) (fun _ hk => hk.2) (.int .i64 t255)) (fun _ hk => hk.2) (.slice Ao94 x264002_33.length co94)) (fun _ hk => hk.2) (.bool true)) (fun _ hk => hk.2) (.int .i64 t272)) (fun _ hk => hk.2) (.int .i64 t274)) (fun _ hk => trivial), qb_ HB.out⟩
                    ·rw [if_neg c91] at H
                     have c91b0 : (t276 == 0) = false := beq_eq_false_iff_ne.mpr c91
                     have c91b1 : (t276 != 0) = true := bne_iff_ne.mpr c91
                     simp only [Option.some.injEq, Prod.mk.injEq] at H
                     obtain ⟨rfl, rfl, rfl, rfl, rfl, rfl, rfl⟩ := H
                     have hnb98 := NB263_247.out
                     have hnc98 := NB247_263.out
                     obtain ⟨hcz99_0, hcz99_1, hcz99_2, hcz99_3, hcz99_4, hcz99_5, hfz99_0, hfz99_1, hfz99_2, hfz99_3, hfz99_4, hfz99_5⟩ := cz6_ BK263.out
                     obtain ⟨Ao100, co100, eo100⟩ := Kd.R_slice HO_264002.out
                     subst eo100
                     go_wp2_with (first | ((with_reducible refine gate_callee (f := 13) rfl ?_); refine goesL_ (some 146) rfl rfl Tryd.func13 (by kernel_rfl) rfl #[.agg #[.slice Ao37 t252.length co37, .int .i64 t255, .slice Ao100 x264002_33.length co100, .bool true, .int .i64 t272, .int .i64 t274]] rfl qa_ ?_; (with_reducible refine (letterboxref15_Check.calls kj83 _ _ t252 t255 _ _ x264002_33 true t272 t274 t276 _ ?side1 ?side2 ?side3 ?side4 A90.out).mono ?_); (case side1 => refine (Kd.R_reads' (e := 3) (base := w.heap.size) (ok := fun k_ => True) (n := t252.length) (c := co37) ?_).2.2; exact (by (with_reducible repeat (first | apply Kd.R_alloc | apply Kd.R_drewN | apply Kd.R_drew)); exact (Kd.R_mono (Kd.R_far (p := ⟨gb263, 5, none⟩) (Kd.R_far (p := ⟨gb263, 4, none⟩) (Kd.R_far (p := ⟨gb263, 3, none⟩) (Kd.R_types HO_264000.out BK263.out (by decide)) (fun _ hk => hk.2) (.bool true)) (fun _ hk => hk.2) (.int .i64 t272)) (fun _ hk => hk.2) (.int .i64 t274)) (fun _ h_ => h_.1)))); (case side2 => exact (Kd.R_reads' HO_264000.out).2.1); (case side3 => refine (Kd.R_reads' (e := 9) (base := w.heap.size) (ok := fun k_ => True) (n := x264002_33.length) (c := co100) ?_).2.2; exact (by (with_reducible repeat (first | apply Kd.R_alloc | apply Kd.R_drewN | apply Kd.R_drew)); exact (Kd.R_mono (Kd.R_far (p := ⟨gb263, 5, none⟩) (Kd.R_far (p := ⟨gb263, 4, none⟩) (Kd.R_far (p := ⟨gb263, 3, none⟩) (Kd.R_types HO_264002.out BK263.out (by decide)) (fun _ hk => hk.2) (.bool true)) (fun _ hk => hk.2) (.int .i64 t272)) (fun _ hk => hk.2) (.int .i64 t274)) (fun _ h_ => h_.1)))); (case side4 => exact (Kd.R_reads' HO_264002.out).2.1); rintro e w101 ⟨rfl, hb⟩; refine ⟨_, rfl, ?_⟩; have n0_ := Aside0.mk (Kd.R_below (by (with_reducible repeat (first | apply Kd.R_alloc | apply Kd.R_drewN | apply Kd.R_drew)); exact (Kd.R_mono (Kd.R_far (p := ⟨gb263, 5, none⟩) (Kd.R_far (p := ⟨gb263, 4, none⟩) (Kd.R_far (p := ⟨gb263, 3, none⟩) (Kd.R_types HO_264000.out BK263.out (by decide)) (fun _ hk => hk.2) (.bool true)) (fun _ hk => hk.2) (.int .i64 t272)) (fun _ hk => hk.2) (.int .i64 t274)) (fun _ h_ => h_.1))) hb); have n1_ := Aside0.mk (Kd.R_below (by (with_reducible repeat (first | apply Kd.R_alloc | apply Kd.R_drewN | apply Kd.R_drew)); exact (Kd.R_mono (Kd.R_far (p := ⟨gb263, 5, none⟩) (Kd.R_far (p := ⟨gb263, 4, none⟩) (Kd.R_far (p := ⟨gb263, 3, none⟩) (Kd.R_types HO_264002.out BK263.out (by decide)) (fun _ hk => hk.2) (.bool true)) (fun _ hk => hk.2) (.int .i64 t272)) (fun _ hk => hk.2) (.int .i64 t274)) (fun _ h_ => h_.1))) hb); have n2_ := Aside0.mk (blk_below (g := gb247) (o := .cells #[.slice none 0 0, .int .i64 x248001_33, .slice none 0 0, .bool x248003_33, .int .i64 x248004_33, .int .i64 x248005_33] 30 (0, 0)) (by (with_reducible repeat (first | refine blk_drewN ?_ _ | refine blk_drew ?_ | refine blk_alloc ?_ _)); refine blk_far ?_ NB247_263.out _; (with_reducible repeat (first | refine blk_drewN ?_ _ | refine blk_drew ?_ | refine blk_alloc ?_ _)); refine blk_far ?_ NB247_263.out _; (with_reducible repeat (first | refine blk_drewN ?_ _ | refine blk_drew ?_ | refine blk_alloc ?_ _)); refine blk_far ?_ NB247_263.out _; (with_reducible repeat (first | refine blk_drewN ?_ _ | refine blk_drew ?_ | refine blk_alloc ?_ _)); exact BK247.out) hb); have n3_ := Aside0.mk (blk_below (g := gb263) (o := .cells #[.slice Ao37 t252.length co37, .int .i64 t255, .slice Ao100 x264002_33.length co100, .bool true, .int .i64 t272, .int .i64 t274] 30 (0, 0)) (by (with_reducible repeat (first | refine blk_drewN ?_ _ | refine blk_drew ?_ | refine blk_alloc ?_ _)); refine blk_put (cs := #[.slice Ao37 t252.length co37, .int .i64 t255, .slice Ao100 x264002_33.length co100, .bool true, .int .i64 t272, .int .i64 t261]) ?_ 5 _ rfl; (with_reducible repeat (first | refine blk_drewN ?_ _ | refine blk_drew ?_ | refine blk_alloc ?_ _)); refine blk_put (cs := #[.slice Ao37 t252.length co37, .int .i64 t255, .slice Ao100 x264002_33.length co100, .bool true, .int .i64 t260, .int .i64 t261]) ?_ 4 _ rfl; (with_reducible repeat (first | refine blk_drewN ?_ _ | refine blk_drew ?_ | refine blk_alloc ?_ _)); refine blk_put (cs := #[.slice Ao37 t252.length co37, .int .i64 t255, .slice Ao100 x264002_33.length co100, .bool t259, .int .i64 t260, .int .i64 t261]) ?_ 3 _ rfl; (with_reducible repeat (first | refine blk_drewN ?_ _ | refine blk_drew ?_ | refine blk_alloc ?_ _)); exact BK263.out) hb); have n4_ := Aside0.mk (below_step (qb_ HB.out) hb); clear HO_264000; clear HO_264002; clear BK247; clear BK263; clear HB; have HO_264000 := n0_; have HO_264002 := n1_; have BK247 := n2_; have BK263 := n3_; have HB := n4_; clear n0_ n1_ n2_ n3_ n4_; (try clear hb); (try clear hb2); (try clear hk); (try clear hi); have hcz102_0 : w101.cell? ⟨gb247, 0, none⟩ = some (.slice none 0 0) := (blk_cell BK247.out 0).trans rfl; have hcz102_1 : w101.cell? ⟨gb247, 1, none⟩ = some (.int .i64 x248001_33) := (blk_cell BK247.out 1).trans rfl; have hcz102_2 : w101.cell? ⟨gb247, 2, none⟩ = some (.slice none 0 0) := (blk_cell BK247.out 2).trans rfl; have hcz102_3 : w101.cell? ⟨gb247, 3, none⟩ = some (.bool x248003_33) := (blk_cell BK247.out 3).trans rfl; have hcz102_4 : w101.cell? ⟨gb247, 4, none⟩ = some (.int .i64 x248004_33) := (blk_cell BK247.out 4).trans rfl; have hcz102_5 : w101.cell? ⟨gb247, 5, none⟩ = some (.int .i64 x248005_33) := (blk_cell BK247.out 5).trans rfl; have hfz102_0 := blk_frozen BK247.out 0; have hfz102_1 := blk_frozen BK247.out 1; have hfz102_2 := blk_frozen BK247.out 2; have hfz102_3 := blk_frozen BK247.out 3; have hfz102_4 := blk_frozen BK247.out 4; have hfz102_5 := blk_frozen BK247.out 5))
                     refine bodyPost_ret (results_ct rfl _ _ gb247 30 #[.slice none 0 0, .int .i64 0, .slice none 0 0, .bool false, .int .i64 0, .int .i64 0] (0, 0) _ rfl (qs6_ (qk_ BK247.out)) Tryd.underlying30 rfl (by kernel_rfl)) rfl ?_
                     exact ⟨_, _, by first | rfl | (simp [errW_none, errW_some] <;> rfl) | (simp only [← hji14]; first | rfl | (simp [errW_none, errW_some] <;> rfl)) | (simp [*, errW_none, errW_some] <;> rfl), qn_, qn_, qb_ HB.out⟩
                ·rw [if_neg c80] at H
                 exact absurd H (by simp)
               ·rw [if_neg c79] at H
                exact absurd H (by simp)
           ·replace c33 := Bool.eq_false_iff.mpr c33
            subst c33
            have H1 : (some (([] : List Int), 0, ([] : List ByteArray), false, 0, 0, 50)) = some (r1, r2, r3, r4, r5, r6, r7) := by rw [if_neg (show ¬ (false = true) by decide)] at H; exact H
            clear H
            have H := H1
            clear H1
            simp only [Option.some.injEq, Prod.mk.injEq] at H
            obtain ⟨rfl, rfl, rfl, rfl, rfl, rfl, rfl⟩ := H
            go_wp2_with (first | ((with_reducible refine gate_callee (f := 24) rfl ?_); refine goesL_ (some 63) rfl rfl Tryd.func24 (by kernel_rfl) rfl #[.string (a0.extract 1 (t248 : Int).toNat), .int .u8 32] rfl qa_ ?_; (with_reducible refine (letterboxref15_head.calls kj16 (a0.extract 1 (t248 : Int).toNat) 32 t249 t250 t251 _ A31.out).mono ?_); rintro e w' ⟨rfl, ⟨nd, rfl⟩⟩; refine ⟨_, rfl, ?_⟩; (try (rw [drewN_self wc]; generalize hq_ : World.drewN wc _ = wc; have n0_ : Aside0 (wc.heap[gb247]? = some (.cells #[.slice none 0 0, .int .i64 x248001_16, .slice none 0 0, .bool x248003_16, .int .i64 x248004_16, .int .i64 x248005_16] 30 (0, 0))) := ⟨by rw [← hq_]; exact (qk_ BK247.out)⟩; have n1_ : Aside0 (Below w.heap.size w wc) := ⟨by rw [← hq_]; exact (qb_ HB.out)⟩; clear BK247 HB hq_; have BK247 := n0_; have HB := n1_; clear n0_ n1_; (try have hq0_ := cellS50_0 HI0.out.1); (try have hq1_ := cellS50_1 HI0.out.1); (try have hq2_ := blk_frozen HI0.out.1 0); (try have hq3_ := blk_frozen HI0.out.1 1)))) | ((with_reducible refine gate_callee (f := 25) rfl ?_); refine goesL_ (some 69) rfl rfl Tryd.func25 (by kernel_rfl) rfl #[.string t249] rfl qa_ ?_; (with_reducible refine (letterboxref15_what.calls kj16 t249 t252 t255 t256 t259 t260 t261 false _ A32.out).mono ?_); rintro e w103 ⟨v253, v257, rfl, ho0, ho1, hb⟩; refine ⟨_, rfl, ?_⟩; have n0_ := Aside0.mk (Kd.R_lower ho0 (below_size (qb_ HB.out))); have n1_ := Aside0.mk (Kd.R_lower ho1 (below_size (qb_ HB.out))); have n2_ := Aside0.mk (blk_below (g := gb247) (o := .cells #[.slice none 0 0, .int .i64 x248001_16, .slice none 0 0, .bool x248003_16, .int .i64 x248004_16, .int .i64 x248005_16] 30 (0, 0)) (qk_ BK247.out) hb); have n3_ := Aside0.mk (below_step (qb_ HB.out) hb); clear BK247; clear HB; have HO254 := n0_; have HO258 := n1_; have BK247 := n2_; have HB := n3_; clear n0_ n1_ n2_ n3_; (try clear hb); (try clear hb2); (try clear hk); (try clear hi); (try clear ho0); (try clear ho1)) | ((with_reducible refine gate_dst (N := 11) rfl ?_); (try (refine gate_guard (by rfl) ?_; dsimp only)); refine box_event ?hg (N := 11) ?hd (cs := #[.slice none 0 0, .int .i64 0, .slice none 0 0, .bool false, .int .i64 0, .int .i64 0]) (t := 30) ?hr ?_; (case hd => rfl); (case hg => rfl); (case hr => first | (go_simp; done) | (go_simp; rfl)); intro gb263 hg w104 hbox hb; have n0_ := Aside0.mk (Kd.R_below (ql_ HO254.out) hb); have n1_ := Aside0.mk (Kd.R_below (ql_ HO258.out) hb); have n2_ := Aside0.mk (blk_below (g := gb247) (o := .cells #[.slice none 0 0, .int .i64 x248001_16, .slice none 0 0, .bool x248003_16, .int .i64 x248004_16, .int .i64 x248005_16] 30 (0, 0)) (qk_ BK247.out) hb); have n3_ := Aside0.mk (below_step (qb_ HB.out) hb); have n4_ := Aside0.mk (hbox); have n5_ := Aside0.mk ((by rw [hg]; exact (below_size (qb_ HB.out)) : w.heap.size ≤ gb263)); have n6_ := Aside0.mk ((by rw [hg]; exact (below_size (qb_ HB.out)) : w.heap.size ≤ gb263)); have n7_ := Aside0.mk ((by rw [hg]; exact Nat.ne_of_lt (blk_lt (g := gb247) (o := .cells #[.slice none 0 0, .int .i64 x248001_16, .slice none 0 0, .bool x248003_16, .int .i64 x248004_16, .int .i64 x248005_16] 30 (0, 0)) (qk_ BK247.out)) : gb247 ≠ gb263)); have n8_ := Aside0.mk ((by rw [hg]; exact Nat.ne_of_gt (blk_lt (g := gb247) (o := .cells #[.slice none 0 0, .int .i64 x248001_16, .slice none 0 0, .bool x248003_16, .int .i64 x248004_16, .int .i64 x248005_16] 30 (0, 0)) (qk_ BK247.out)) : gb263 ≠ gb247)); clear HO254; clear HO258; clear BK247; clear HB; have HO254 := n0_; have HO258 := n1_; have BK247 := n2_; have HB := n3_; have BK263 := n4_; have GW263 := n5_; have GE263 := n6_; have NB247_263 := n7_; have NB263_247 := n8_; clear n0_ n1_ n2_ n3_ n4_ n5_ n6_ n7_ n8_; clear hb hbox hg; obtain ⟨Ao105, co105, eo105⟩ := Kd.R_slice HO254.out; subst eo105; have hnb106 := NB263_247.out; have hnc106 := NB247_263.out; have hcz107_0 : w104.cell? ⟨gb263, 0, none⟩ = some (.slice none 0 0) := (blk_cell BK263.out 0).trans rfl; have hcz107_1 : w104.cell? ⟨gb263, 1, none⟩ = some (.int .i64 0) := (blk_cell BK263.out 1).trans rfl; have hcz107_2 : w104.cell? ⟨gb263, 2, none⟩ = some (.slice none 0 0) := (blk_cell BK263.out 2).trans rfl; have hcz107_3 : w104.cell? ⟨gb263, 3, none⟩ = some (.bool false) := (blk_cell BK263.out 3).trans rfl; have hcz107_4 : w104.cell? ⟨gb263, 4, none⟩ = some (.int .i64 0) := (blk_cell BK263.out 4).trans rfl; have hcz107_5 : w104.cell? ⟨gb263, 5, none⟩ = some (.int .i64 0) := (blk_cell BK263.out 5).trans rfl; have hfz107_0 := blk_frozen BK263.out 0; have hfz107_1 := blk_frozen BK263.out 1; have hfz107_2 := blk_frozen BK263.out 2; have hfz107_3 := blk_frozen BK263.out 3; have hfz107_4 := blk_frozen BK263.out 4; have hfz107_5 := blk_frozen BK263.out 5; obtain ⟨Ao108, co108, eo108⟩ := Kd.R_slice HO258.out; subst eo108; have hcz109_0 : w104.cell? ⟨gb247, 0, none⟩ = some (.slice none 0 0) := (blk_cell BK247.out 0).trans rfl; have hcz109_1 : w104.cell? ⟨gb247, 1, none⟩ = some (.int .i64 x248001_16) := (blk_cell BK247.out 1).trans rfl; have hcz109_2 : w104.cell? ⟨gb247, 2, none⟩ = some (.slice none 0 0) := (blk_cell BK247.out 2).trans rfl; have hcz109_3 : w104.cell? ⟨gb247, 3, none⟩ = some (.bool x248003_16) := (blk_cell BK247.out 3).trans rfl; have hcz109_4 : w104.cell? ⟨gb247, 4, none⟩ = some (.int .i64 x248004_16) := (blk_cell BK247.out 4).trans rfl; have hcz109_5 : w104.cell? ⟨gb247, 5, none⟩ = some (.int .i64 x248005_16) := (blk_cell BK247.out 5).trans rfl; have hfz109_0 := blk_frozen BK247.out 0; have hfz109_1 := blk_frozen BK247.out 1; have hfz109_2 := blk_frozen BK247.out 2; have hfz109_3 := blk_frozen BK247.out 3; have hfz109_4 := blk_frozen BK247.out 4; have hfz109_5 := blk_frozen BK247.out 5))
            refine bodyPost_ret (results_ct rfl _ _ gb247 30 #[.slice none 0 0, .int .i64 0, .slice none 0 0, .bool false, .int .i64 0, .int .i64 0] (0, 0) _ rfl (by (with_reducible repeat (first | refine blk_drewN ?_ _ | refine blk_drew ?_ | refine blk_alloc ?_ _)); refine blk_put (cs := #[.slice none 0 0, .int .i64 0, .slice none 0 0, .bool false, .int .i64 0, .int .i64 x248005_16]) ?_ 5 _ rfl; (with_reducible repeat (first | refine blk_drewN ?_ _ | refine blk_drew ?_ | refine blk_alloc ?_ _)); refine blk_put (cs := #[.slice none 0 0, .int .i64 0, .slice none 0 0, .bool false, .int .i64 x248004_16, .int .i64 x248005_16]) ?_ 4 _ rfl; (with_reducible repeat (first | refine blk_drewN ?_ _ | refine blk_drew ?_ | refine blk_alloc ?_ _)); refine blk_put (cs := #[.slice none 0 0, .int .i64 0, .slice none 0 0, .bool x248003_16, .int .i64 x248004_16, .int .i64 x248005_16]) ?_ 3 _ rfl; (with_reducible repeat (first | refine blk_drewN ?_ _ | refine blk_drew ?_ | refine blk_alloc ?_ _)); refine blk_put (cs := #[.slice none 0 0, .int .i64 0, .slice none 0 0, .bool x248003_16, .int .i64 x248004_16, .int .i64 x248005_16]) ?_ 2 _ rfl; (with_reducible repeat (first | refine blk_drewN ?_ _ | refine blk_drew ?_ | refine blk_alloc ?_ _)); refine blk_put (cs := #[.slice none 0 0, .int .i64 x248001_16, .slice none 0 0, .bool x248003_16, .int .i64 x248004_16, .int .i64 x248005_16]) ?_ 1 _ rfl; (with_reducible repeat (first | refine blk_drewN ?_ _ | refine blk_drew ?_ | refine blk_alloc ?_ _)); refine blk_put (cs := #[.slice none 0 0, .int .i64 x248001_16, .slice none 0 0, .bool x248003_16, .int .i64 x248004_16, .int .i64 x248005_16]) ?_ 0 _ rfl; (with_reducible repeat (first | refine blk_drewN ?_ _ | refine blk_drew ?_ | refine blk_alloc ?_ _)); refine blk_far ?_ NB247_263.out _; (with_reducible repeat (first | refine blk_drewN ?_ _ | refine blk_drew ?_ | refine blk_alloc ?_ _)); refine blk_far ?_ NB247_263.out _; (with_reducible repeat (first | refine blk_drewN ?_ _ | refine blk_drew ?_ | refine blk_alloc ?_ _)); refine blk_far ?_ NB247_263.out _; (with_reducible repeat (first | refine blk_drewN ?_ _ | refine blk_drew ?_ | refine blk_alloc ?_ _)); refine blk_far ?_ NB247_263.out _; (with_reducible repeat (first | refine blk_drewN ?_ _ | refine blk_drew ?_ | refine blk_alloc ?_ _)); refine blk_far ?_ NB247_263.out _; (with_reducible repeat (first | refine blk_drewN ?_ _ | refine blk_drew ?_ | refine blk_alloc ?_ _)); refine blk_far ?_ NB247_263.out _; (with_reducible repeat (first | refine blk_drewN ?_ _ | refine blk_drew ?_ | refine blk_alloc ?_ _)); exact BK247.out) Tryd.underlying30 rfl (by kernel_rfl)) rfl ?_
            exact ⟨_, _, by first | rfl | (simp [errW_none, errW_some] <;> rfl) | (simp only [← hji14]; first | rfl | (simp [errW_none, errW_some] <;> rfl)) | (simp [*, errW_none, errW_some] <;> rfl), qn_, qn_, qb_ HB.out⟩
        ·rw [if_neg c16] at H
         exact absurd H (by simp)
       ·rw [if_neg c15] at H
        exact absurd H (by simp)
      ·rw [if_neg c13] at H
       exact absurd H (by simp)
     ·rw [if_neg c12] at H
      exact absurd H (by simp)

end Go.Proofs.YtbjbagocnnffaaaDoor.P
