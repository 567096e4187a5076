-- Written by a program of this session (wip/tools/mk.sh) for this claim: it runs the kit's print with contracts of our own. Lean checks it.
import Derived.Test.YtbjbagocnnffaaaDoorPx0
import Derived.Test.YtbjbagocnnffaaaDoorWRepsOne
import Derived.Test.YtbjbagocnnffaaaDoorZStr
import Derived.Test.YtbjbagocnnffaaaDoorPx11
namespace Go.Proofs.YtbjbagocnnffaaaDoor.P
open Go.RowKit Go.Proofs.YtbjbagocnnffaaaDoorW.PrintWords Go.Proofs.YtbjbagocnnffaaaDoorW.PrintLast Go.Proofs.YtbjbagocnnffaaaDoorW.PrintMore
attribute [-simp] Int.tmod_tmod_of_dvd
attribute [local go_sem] max2_int min2_int max_two min_two max_three min_three max_four min_four   -- for this text's walks alone
set_option linter.unusedVariables false
set_option linter.unusedSimpArgs false

/-! ### letterboxref15_what: function 25 -/
mutual
def letterboxref15_what.l0 : Nat → ByteArray → List Int → Int → Bool → Int → Int → Option (List Int × Int × List ByteArray × Bool × Int × Int × Bool)
 | 0, _, _, _, _, _, _ => none
 | k + 1, x0, x227000, x227001, x227003, x227004, x227005 => if x0.toList = ([] : List UInt8) then (letterboxref15_what.j1 k x0 false x227000 x227001 x227003 x227004 x227005) else (if 0 < (x0.size : Int) then (if (bt x0 0) ≥ 48 then (letterboxref15_what.j1 k x0 (decide ((bt x0 0) ≤ 57)) x227000 x227001 x227003 x227004 x227005) else (letterboxref15_what.j1 k x0 false x227000 x227001 x227003 x227004 x227005)) else (none))
def letterboxref15_what.j1 : Nat → ByteArray → Bool → List Int → Int → Bool → Int → Int → Option (List Int × Int × List ByteArray × Bool × Int × Int × Bool)
 | 0, _, _, _, _, _, _, _ => none
 | k + 1, x0, x22, x227000, x227001, x227003, x227004, x227005 => if x22 = true then ((letterboxref15_head.f k x0 46).bind fun bt227 => ((letterboxref01_Number.f k bt227.1).bind fun bt230 => (if bt230.2 = true then (if bt227.2.2 = true then (letterboxref15_what.j2 k bt227.2.1 bt227.2.2 bt230.1 (bt227.2.1.toList == ([] : List UInt8)) x227000 x227001 x227003 x227004 x227005) else (letterboxref15_what.j2 k bt227.2.1 bt227.2.2 bt230.1 false x227000 x227001 x227003 x227004 x227005)) else (letterboxref15_what.j2 k bt227.2.1 bt227.2.2 bt230.1 true x227000 x227001 x227003 x227004 x227005)))) else (if x0.toList = ([] : List UInt8) then (some (x227000, x227001, ([] : List ByteArray), x227003, x227004, x227005, true)) else (letterboxref15_what.l1 k x0 1 x227000 x227001 x227003 x227004 x227005))
def letterboxref15_what.j2 : Nat → ByteArray → Bool → Int → Bool → List Int → Int → Bool → Int → Int → Option (List Int × Int × List ByteArray × Bool × Int × Int × Bool)
 | 0, _, _, _, _, _, _, _, _, _ => none
 | k + 1, x6, x7, x8, x42, x227000, x227001, x227003, x227004, x227005 => if x42 = true then (some (([] : List Int), 0, ([] : List ByteArray), false, 0, 0, false)) else (if x227000.length < 17592186044416 then ((some (x227000 ++ [x8] : List Int)).bind fun y232 => (if x7 = true then (letterboxref15_what.l0 k x6 y232 x227001 x227003 x227004 x227005) else (some (y232, x227001, ([] : List ByteArray), x227003, x227004, x227005, true)))) else (none))
def letterboxref15_what.l1 : Nat → ByteArray → Int → List Int → Int → Bool → Int → Int → Option (List Int × Int × List ByteArray × Bool × Int × Int × Bool)
 | 0, _, _, _, _, _, _, _ => none
 | k + 1, x0, x10, x227000, x227001, x227003, x227004, x227005 => if x10 < 6 then ((letterboxref15_word.f x10).bind fun t235 => ((letterboxref01_Fold.f k t235).bind fun t236 => ((letterboxref01_Fold.f k x0).bind fun t237 => (if t236.toList = t237.toList then (some (x227000, x10, ([] : List ByteArray), x227003, x227004, x227005, true)) else (letterboxref15_what.l1 k x0 (wrap64 (x10 + 1)) x227000 x227001 x227003 x227004 x227005))))) else (some (([] : List Int), 0, ([] : List ByteArray), false, 0, 0, false))
end
def letterboxref15_what.f (k : Nat) (a0 : ByteArray) : Option (List Int × Int × List ByteArray × Bool × Int × Int × Bool) := letterboxref15_what.l0 k a0 ([] : List Int) 0 false 0 0
theorem letterboxref15_what.mono_l : ∀ k, (∀ y0 y1 y2 y3 y4 y5, LeO (letterboxref15_what.l0 k y0 y1 y2 y3 y4 y5) (letterboxref15_what.l0 (k + 1) y0 y1 y2 y3 y4 y5)) ∧ (∀ y0 y1 y2 y3 y4 y5 y6, LeO (letterboxref15_what.j1 k y0 y1 y2 y3 y4 y5 y6) (letterboxref15_what.j1 (k + 1) y0 y1 y2 y3 y4 y5 y6)) ∧ (∀ y0 y1 y2 y3 y4 y5 y6 y7 y8, LeO (letterboxref15_what.j2 k y0 y1 y2 y3 y4 y5 y6 y7 y8) (letterboxref15_what.j2 (k + 1) y0 y1 y2 y3 y4 y5 y6 y7 y8)) ∧ (∀ y0 y1 y2 y3 y4 y5 y6, LeO (letterboxref15_what.l1 k y0 y1 y2 y3 y4 y5 y6) (letterboxref15_what.l1 (k + 1) y0 y1 y2 y3 y4 y5 y6))
 | 0 => ⟨fun _ _ _ _ _ _ r h => by simp [letterboxref15_what.l0] at h, fun _ _ _ _ _ _ _ r h => by simp [letterboxref15_what.j1] at h, fun _ _ _ _ _ _ _ _ _ r h => by simp [letterboxref15_what.j2] at h, fun _ _ _ _ _ _ _ r h => by simp [letterboxref15_what.l1] at h⟩
 | k + 1 => by
  obtain ⟨ih0, ih1, ih2, ih3⟩ := letterboxref15_what.mono_l k
  refine ⟨?_, ?_, ?_, ?_⟩
  ·intro y0 y1 y2 y3 y4 y5
   unfold letterboxref15_what.l0
   repeat' first
   | (with_reducible exact ih0 _ _ _ _ _ _)
   | (with_reducible exact ih1 _ _ _ _ _ _ _)
   | (with_reducible exact ih2 _ _ _ _ _ _ _ _ _)
   | (with_reducible exact ih3 _ _ _ _ _ _ _)
   | (with_reducible exact letterboxref01_Fold.mono _ _)
   | (with_reducible exact letterboxref01_Number.mono _ _)
   | (with_reducible exact letterboxref15_head.mono _ _ _)
   | (with_reducible exact LeO.refl _)
   | (with_reducible exact LeO.none _)
   | (with_reducible refine LeO.ite ?_ ?_)
   | (with_reducible refine LeO.bind ?_ (fun _ => ?_))
   | exact ih0 _ _ _ _ _ _
   | exact ih1 _ _ _ _ _ _ _
   | exact ih2 _ _ _ _ _ _ _ _ _
   | exact ih3 _ _ _ _ _ _ _
   | exact letterboxref01_Fold.mono _ _
   | exact letterboxref01_Number.mono _ _
   | exact letterboxref15_head.mono _ _ _
   | exact LeO.none _
   | refine LeO.ite ?_ ?_
   | refine LeO.bind ?_ (fun _ => ?_)
  ·intro y0 y1 y2 y3 y4 y5 y6
   unfold letterboxref15_what.j1
   repeat' first
   | (with_reducible exact ih0 _ _ _ _ _ _)
   | (with_reducible exact ih1 _ _ _ _ _ _ _)
   | (with_reducible exact ih2 _ _ _ _ _ _ _ _ _)
   | (with_reducible exact ih3 _ _ _ _ _ _ _)
   | (with_reducible exact letterboxref01_Fold.mono _ _)
   | (with_reducible exact letterboxref01_Number.mono _ _)
   | (with_reducible exact letterboxref15_head.mono _ _ _)
   | (with_reducible exact LeO.refl _)
   | (with_reducible exact LeO.none _)
   | (with_reducible refine LeO.ite ?_ ?_)
   | (with_reducible refine LeO.bind ?_ (fun _ => ?_))
   | exact ih0 _ _ _ _ _ _
   | exact ih1 _ _ _ _ _ _ _
   | exact ih2 _ _ _ _ _ _ _ _ _
   | exact ih3 _ _ _ _ _ _ _
   | exact letterboxref01_Fold.mono _ _
   | exact letterboxref01_Number.mono _ _
   | exact letterboxref15_head.mono _ _ _
   | exact LeO.none _
   | refine LeO.ite ?_ ?_
   | refine LeO.bind ?_ (fun _ => ?_)
  ·intro y0 y1 y2 y3 y4 y5 y6 y7 y8
   unfold letterboxref15_what.j2
   repeat' first
   | (with_reducible exact ih0 _ _ _ _ _ _)
   | (with_reducible exact ih1 _ _ _ _ _ _ _)
   | (with_reducible exact ih2 _ _ _ _ _ _ _ _ _)
   | (with_reducible exact ih3 _ _ _ _ _ _ _)
   | (with_reducible exact letterboxref01_Fold.mono _ _)
   | (with_reducible exact letterboxref01_Number.mono _ _)
   | (with_reducible exact letterboxref15_head.mono _ _ _)
   | (with_reducible exact LeO.refl _)
   | (with_reducible exact LeO.none _)
   | (with_reducible refine LeO.ite ?_ ?_)
   | (with_reducible refine LeO.bind ?_ (fun _ => ?_))
   | exact ih0 _ _ _ _ _ _
   | exact ih1 _ _ _ _ _ _ _
   | exact ih2 _ _ _ _ _ _ _ _ _
   | exact ih3 _ _ _ _ _ _ _
   | exact letterboxref01_Fold.mono _ _
   | exact letterboxref01_Number.mono _ _
   | exact letterboxref15_head.mono _ _ _
   | exact LeO.none _
   | refine LeO.ite ?_ ?_
   | refine LeO.bind ?_ (fun _ => ?_)
  ·intro y0 y1 y2 y3 y4 y5 y6
   unfold letterboxref15_what.l1
   repeat' first
   | (with_reducible exact ih0 _ _ _ _ _ _)
   | (with_reducible exact ih1 _ _ _ _ _ _ _)
   | (with_reducible exact ih2 _ _ _ _ _ _ _ _ _)
   | (with_reducible exact ih3 _ _ _ _ _ _ _)
   | (with_reducible exact letterboxref01_Fold.mono _ _)
   | (with_reducible exact letterboxref01_Number.mono _ _)
   | (with_reducible exact letterboxref15_head.mono _ _ _)
   | (with_reducible exact LeO.refl _)
   | (with_reducible exact LeO.none _)
   | (with_reducible refine LeO.ite ?_ ?_)
   | (with_reducible refine LeO.bind ?_ (fun _ => ?_))
   | exact ih0 _ _ _ _ _ _
   | exact ih1 _ _ _ _ _ _ _
   | exact ih2 _ _ _ _ _ _ _ _ _
   | exact ih3 _ _ _ _ _ _ _
   | exact letterboxref01_Fold.mono _ _
   | exact letterboxref01_Number.mono _ _
   | exact letterboxref15_head.mono _ _ _
   | exact LeO.none _
   | refine LeO.ite ?_ ?_
   | refine LeO.bind ?_ (fun _ => ?_)
theorem letterboxref15_what.mono : ∀ a0 k, LeO (letterboxref15_what.f k a0) (letterboxref15_what.f (k + 1) a0) := by
 intro a0 k
 obtain ⟨ih0, ih1, ih2, ih3⟩ := letterboxref15_what.mono_l k
 unfold letterboxref15_what.f
 repeat' first
   | (with_reducible exact ih0 _ _ _ _ _ _)
   | (with_reducible exact ih1 _ _ _ _ _ _ _)
   | (with_reducible exact ih2 _ _ _ _ _ _ _ _ _)
   | (with_reducible exact ih3 _ _ _ _ _ _ _)
   | (with_reducible exact letterboxref01_Fold.mono _ _)
   | (with_reducible exact letterboxref01_Number.mono _ _)
   | (with_reducible exact letterboxref15_head.mono _ _ _)
   | (with_reducible exact LeO.refl _)
   | (with_reducible exact LeO.none _)
   | (with_reducible refine LeO.ite ?_ ?_)
   | (with_reducible refine LeO.bind ?_ (fun _ => ?_))
   | exact ih0 _ _ _ _ _ _
   | exact ih1 _ _ _ _ _ _ _
   | exact ih2 _ _ _ _ _ _ _ _ _
   | exact ih3 _ _ _ _ _ _ _
   | exact letterboxref01_Fold.mono _ _
   | exact letterboxref01_Number.mono _ _
   | exact letterboxref15_head.mono _ _ _
   | exact LeO.none _
   | refine LeO.ite ?_ ?_
   | refine LeO.bind ?_ (fun _ => ?_)
set_option maxHeartbeats 8000000 in
set_option maxRecDepth 100000 in
theorem letterboxref15_what.calls (k : Nat) (a0 : ByteArray) (r1 : List Int) (r2 : Int) (r3 : List ByteArray) (r4 : Bool) (r5 : Int) (r6 : Int) (r7 : Bool) (w : World) (h : letterboxref15_what.f k a0 = some (r1, r2, r3, r4, r5, r6, r7)) :
  Calls Tryd.prog 25 #[.string a0] w fun e w' => ∃ v0_ v2_ : Value, e = .returned (.tuple #[.agg #[v0_, .int .i64 r2, v2_, .bool r4, .int .i64 r5, .int .i64 r6], .bool r7]) ∧ Kd.R (Kd.int .i64) 3 w' w.heap.size (fun _ => True) v0_ r1 ∧ Kd.R Kd.string 9 w' w.heap.size (fun _ => True) v2_ r3 ∧ Below w.heap.size w w' := by
 have hu30 := Tryd.underlying30
 have HB := Aside0.mk (Below.refl w.heap.size w)
 have H : (letterboxref15_what.l0 k a0 ([] : List Int) 0 false 0 0) = some (r1, r2, r3, r4, r5, r6, r7) := h
 clear h
 have H' := Aside0.mk H
 clear H
 go_enter Tryd.func25, Tryd.ntmps25
 go_wp2_with (first | ((with_reducible refine gate_dst (N := 2) rfl ?_); refine box_event ?hg (N := 2) ?hd (cs := #[.slice none 0 0, .int .i64 0, .slice none 0 0, .bool false, .int .i64 0, .int .i64 0]) (t := 30) ?hr ?_; (case hd => rfl); (case hg => rfl); (case hr => first | (go_simp; done) | (go_simp; rfl)); intro gb225 hg w2 hbox hb; have n0_ := Aside0.mk (below_step (qb_ HB.out) hb); have n1_ := Aside0.mk (hbox); have n2_ := Aside0.mk ((by rw [hg]; exact (below_size (qb_ HB.out)) : w.heap.size ≤ gb225)); have n3_ := Aside0.mk ((by rw [hg]; exact (below_size (qb_ HB.out)) : w.heap.size ≤ gb225)); clear HB; have HB := n0_; have BK225 := n1_; have GW225 := n2_; have GE225 := n3_; clear n0_ n1_ n2_ n3_; clear hb hbox hg) | ((with_reducible refine gate_dst (N := 4) rfl ?_); refine box_event ?hg (N := 4) ?hd (cs := #[.slice none 0 0, .int .i64 0, .slice none 0 0, .bool false, .int .i64 0, .int .i64 0]) (t := 30) ?hr ?_; (case hd => rfl); (case hg => rfl); (case hr => first | (go_simp; done) | (go_simp; rfl)); intro gb226 hg w3 hbox hb; have n0_ := Aside0.mk (blk_below (g := gb225) (o := .cells #[.slice none 0 0, .int .i64 0, .slice none 0 0, .bool false, .int .i64 0, .int .i64 0] 30 (0, 0)) (qk_ BK225.out) hb); have n1_ := Aside0.mk (below_step (qb_ HB.out) hb); have n2_ := Aside0.mk (hbox); have n3_ := Aside0.mk ((by rw [hg]; exact (below_size (qb_ HB.out)) : w.heap.size ≤ gb226)); have n4_ := Aside0.mk ((by rw [hg]; exact (below_size (qb_ HB.out)) : w.heap.size ≤ gb226)); have n5_ := Aside0.mk ((by rw [hg]; exact Nat.ne_of_lt (blk_lt (g := gb225) (o := .cells #[.slice none 0 0, .int .i64 0, .slice none 0 0, .bool false, .int .i64 0, .int .i64 0] 30 (0, 0)) (qk_ BK225.out)) : gb225 ≠ gb226)); have n6_ := Aside0.mk ((by rw [hg]; exact Nat.ne_of_gt (blk_lt (g := gb225) (o := .cells #[.slice none 0 0, .int .i64 0, .slice none 0 0, .bool false, .int .i64 0, .int .i64 0] 30 (0, 0)) (qk_ BK225.out)) : gb226 ≠ gb225)); clear BK225; clear HB; have BK225 := n0_; have HB := n1_; have BK226 := n2_; have GW226 := n3_; have GE226 := n4_; have NB225_226 := n5_; have NB226_225 := n6_; clear n0_ n1_ n2_ n3_ n4_ n5_ n6_; clear hb hbox hg))
 (try go_simp)
 go_loopg [0] k (fun kq v0 w' => ∃ (x0_1 : ByteArray) (x226001_1 : Int) (x226003_1 : Bool) (x226004_1 : Int) (x226005_1 : Int) (x227000_1 : List Int) (u227000 : Value), v0 = .string x0_1 ∧ Aside0 (letterboxref15_what.l0 kq x0_1 x227000_1 0 false 0 0 = some (r1, r2, r3, r4, r5, r6, r7)) ∧ Aside0 (kq ≤ k) ∧ Aside0 (Kd.R (Kd.int .i64) 3 w' w.heap.size (fun _ => True) u227000 x227000_1) ∧ Aside0 (w'.heap[gb225]? = some (.cells #[(.slice none 0 0), .int .i64 x226001_1, (.slice none 0 0), .bool x226003_1, .int .i64 x226004_1, .int .i64 x226005_1] 30 (0, 0))) ∧ Aside0 (w'.heap[gb226]? = some (.cells #[u227000, .int .i64 0, (.slice none 0 0), .bool false, .int .i64 0, .int .i64 0] 30 (0, 0))) ∧ Aside0 (Below w.heap.size w w'))
 case atStart => exact ⟨(a0), (0), (false), (0), (0), (([] : List Int)), (.slice none 0 0), qr_, H', ⟨Nat.le_refl _⟩, ⟨qn_⟩, ⟨qk_ BK225.out⟩, ⟨qk_ BK226.out⟩, ⟨qb_ HB.out⟩⟩
 case round =>
  clear H'
  obtain ⟨x0_1, x226001_1, x226003_1, x226004_1, x226005_1, x227000_1, u227000, rfl, HA, HK1, HO_227000, BK225, BK226, HB⟩ := hrel
  cases gk with
  | zero => exact absurd HA.out (by simp [letterboxref15_what.l0])
  | succ k1 =>
   have H := HA.out
   clear HA
   simp only [letterboxref15_what.l0] at H
   have HC4 := Aside0.mk H
   clear H
   go_upto_region 2 with (fail)
   go_cut [22] (fun v22 wc => ∃ (kq : Nat) (x22_3 : Bool), v22 = .bool x22_3 ∧ Aside0 (letterboxref15_what.j1 kq x0_1 x22_3 x227000_1 0 false 0 0 = some (r1, r2, r3, r4, r5, r6, r7)) ∧ Aside0 (kq ≤ k1) ∧ Aside0 (Kd.R (Kd.int .i64) 3 wc w.heap.size (fun _ => True) u227000 x227000_1) ∧ Aside0 (wc.heap[gb225]? = some (.cells #[(.slice none 0 0), .int .i64 x226001_1, (.slice none 0 0), .bool x226003_1, .int .i64 x226004_1, .int .i64 x226005_1] 30 (0, 0))) ∧ Aside0 (wc.heap[gb226]? = some (.cells #[u227000, .int .i64 0, (.slice none 0 0), .bool false, .int .i64 0, .int .i64 0] 30 (0, 0))) ∧ Aside0 (Below w.heap.size w wc))
   case first =>
    have H := HC4.out
    clear HC4
    by_cases c5 : x0_1.toList = ([] : List UInt8)
    ·rw [if_pos c5] at H
     have c5b0 : (x0_1.toList == ([] : List UInt8)) = true := beq_iff_eq.mpr c5
     have c5b1 : (x0_1.toList != ([] : List UInt8)) = false := bne_eq_false_iff_eq.mpr c5
     clear c5
     (first | rw [c5b0] | (simp only [i64_w, i32_w]; rw [c5b0]) | skip)
     have H' := Aside0.mk H
     clear H
     go_wp2
     go_meet
     case rel => exact ⟨_, (false), qr_, H', ⟨by have := HK1.out; first | omega | exact Nat.le_refl _⟩, ⟨ql_ HO_227000.out⟩, ⟨qk_ BK225.out⟩, ⟨qk_ BK226.out⟩, ⟨qb_ HB.out⟩⟩
    ·rw [if_neg c5] at H
     have c5b0 : (x0_1.toList == ([] : List UInt8)) = false := beq_eq_false_iff_ne.mpr c5
     have c5b1 : (x0_1.toList != ([] : List UInt8)) = true := bne_iff_ne.mpr c5
     (first | rw [c5b0] | (simp only [i64_w, i32_w]; rw [c5b0]) | skip)
     by_cases c6 : 0 < (x0_1.size : Int)
     ·rw [if_pos c6] at H
      have c6b0 : decide (0 < (x0_1.size : Int)) = true := decide_eq_true c6
      have c6b1 : decide (0 < x0_1.size) = true := decide_eq_true (by omega)
      clear c6
      by_cases c8 : (bt x0_1 0) ≥ 48
      ·rw [if_pos c8] at H
       have c8b0 : decide (48 ≤ (bt x0_1 0)) = true := decide_eq_true c8
       clear c8
       have H' := Aside0.mk H
       clear H
       have p7 : 0 ≤ (0 : Int) := (by omega)
       have q7 : 0 < x0_1.size := (by have : (0 : Int) < (x0_1.size : Int) := qd_; omega)
       have hx7 : ∀ h : 0 < x0_1.size, ((x0_1[0]'h).toNat : Int) = bt x0_1 0 := bt_at x0_1 0
       clear p7
       have qi7 : (0 < (x0_1.size : Int)) = True := eq_true (qd_)
       replace q7 := eq_true q7
       have p9 : 0 ≤ (0 : Int) := (by omega)
       have q9 : 0 < x0_1.size := (by have : (0 : Int) < (x0_1.size : Int) := qd_; omega)
       have hx9 : ∀ h : 0 < x0_1.size, ((x0_1[0]'h).toNat : Int) = bt x0_1 0 := bt_at x0_1 0
       clear p9
       have qi9 : (0 < (x0_1.size : Int)) = True := eq_true (qd_)
       replace q9 := eq_true q9
       go_wp2
       go_meet
       case rel => exact ⟨_, (decide ((bt x0_1 0) ≤ 57)), qr_, H', ⟨by have := HK1.out; first | omega | exact Nat.le_refl _⟩, ⟨ql_ HO_227000.out⟩, ⟨qk_ BK225.out⟩, ⟨qk_ BK226.out⟩, ⟨qb_ HB.out⟩⟩
      ·rw [if_neg c8] at H
       have c8b0 : decide (48 ≤ (bt x0_1 0)) = false := decide_eq_false c8
       clear c8
       have H' := Aside0.mk H
       clear H
       have p7 : 0 ≤ (0 : Int) := (by omega)
       have q7 : 0 < x0_1.size := (by have : (0 : Int) < (x0_1.size : Int) := qd_; omega)
       have hx7 : ∀ h : 0 < x0_1.size, ((x0_1[0]'h).toNat : Int) = bt x0_1 0 := bt_at x0_1 0
       clear p7
       have qi7 : (0 < (x0_1.size : Int)) = True := eq_true (qd_)
       replace q7 := eq_true q7
       go_wp2
       go_meet
       case rel => exact ⟨_, (false), qr_, H', ⟨by have := HK1.out; first | omega | exact Nat.le_refl _⟩, ⟨ql_ HO_227000.out⟩, ⟨qk_ BK225.out⟩, ⟨qk_ BK226.out⟩, ⟨qb_ HB.out⟩⟩
     ·rw [if_neg c6] at H
      exact absurd H (by simp)
   case rest =>
    clear HC4
    obtain ⟨kq, x22_3, rfl, HA, HJ3, HO_227000, BK225, BK226, HB⟩ := hcut
    cases kq with
    | zero => exact absurd HA.out (by simp [letterboxref15_what.j1])
    | succ kj3 =>
     have H := HA.out
     clear HA
     simp only [letterboxref15_what.j1] at H
     by_cases c10 : x22_3 = true
     ·subst c10
      have H1 : ((letterboxref15_head.f kj3 x0_1 46).bind fun bt227 => ((letterboxref01_Number.f kj3 bt227.1).bind fun bt230 => (if bt230.2 = true then (if bt227.2.2 = true then (letterboxref15_what.j2 kj3 bt227.2.1 bt227.2.2 bt230.1 (bt227.2.1.toList == ([] : List UInt8)) x227000_1 0 false 0 0) else (letterboxref15_what.j2 kj3 bt227.2.1 bt227.2.2 bt230.1 false x227000_1 0 false 0 0)) else (letterboxref15_what.j2 kj3 bt227.2.1 bt227.2.2 bt230.1 true x227000_1 0 false 0 0)))) = some (r1, r2, r3, r4, r5, r6, r7) := by rw [if_pos rfl] at H; exact H
      clear H
      have H := H1
      clear H1
      replace H := Option.bind_eq_some_iff.mp H
      obtain ⟨⟨t227, t228, t229⟩, A110, H⟩ := H
      replace H : ((letterboxref01_Number.f kj3 t227).bind fun bt230 => (if bt230.2 = true then (if t229 = true then (letterboxref15_what.j2 kj3 t228 t229 bt230.1 (t228.toList == ([] : List UInt8)) x227000_1 0 false 0 0) else (letterboxref15_what.j2 kj3 t228 t229 bt230.1 false x227000_1 0 false 0 0)) else (letterboxref15_what.j2 kj3 t228 t229 bt230.1 true x227000_1 0 false 0 0))) = some (r1, r2, r3, r4, r5, r6, r7) := H
      have A11 := Aside0.mk A110
      clear A110
      replace H := Option.bind_eq_some_iff.mp H
      obtain ⟨⟨t230, t231⟩, A120, H⟩ := H
      replace H : (if t231 = true then (if t229 = true then (letterboxref15_what.j2 kj3 t228 t229 t230 (t228.toList == ([] : List UInt8)) x227000_1 0 false 0 0) else (letterboxref15_what.j2 kj3 t228 t229 t230 false x227000_1 0 false 0 0)) else (letterboxref15_what.j2 kj3 t228 t229 t230 true x227000_1 0 false 0 0)) = some (r1, r2, r3, r4, r5, r6, r7) := H
      have A12 := Aside0.mk A120
      clear A120
      have HC13 := Aside0.mk H
      clear H
      go_upto_region 5 with (first | ((with_reducible refine gate_callee (f := 24) rfl ?_); refine goesL_ (some 25) rfl rfl Tryd.func24 (by kernel_rfl) rfl #[.string x0_1, .int .u8 46] rfl qa_ ?_; (with_reducible refine (letterboxref15_head.calls kj3 x0_1 46 t227 t228 t229 _ A11.out).mono ?_); rintro e w' ⟨rfl, ⟨nd, rfl⟩⟩; refine ⟨_, rfl, ?_⟩) | ((with_reducible refine gate_callee (f := 27) rfl ?_); refine goesL_ (some 31) rfl rfl Tryd.func27 (by kernel_rfl) rfl #[.string t227] rfl qa_ ?_; (with_reducible refine (letterboxref01_Number.calls kj3 t227 t230 t231 _ A12.out).mono ?_); rintro e w' ⟨rfl, ⟨nd, rfl⟩⟩; refine ⟨_, rfl, ?_⟩))
      (try simp only [Act.put, List.setIfInBounds_toArray, List.set_cons_zero, List.set_cons_succ])
      go_cut [42] (fun v42 wc => ∃ (kq : Nat) (x42_12 : Bool), v42 = .bool x42_12 ∧ Aside0 (letterboxref15_what.j2 kq t228 t229 t230 x42_12 x227000_1 0 false 0 0 = some (r1, r2, r3, r4, r5, r6, r7)) ∧ Aside0 (kq ≤ kj3) ∧ Aside0 (Kd.R (Kd.int .i64) 3 wc w.heap.size (fun _ => True) u227000 x227000_1) ∧ Aside0 (wc.heap[gb225]? = some (.cells #[(.slice none 0 0), .int .i64 x226001_1, (.slice none 0 0), .bool x226003_1, .int .i64 x226004_1, .int .i64 x226005_1] 30 (0, 0))) ∧ Aside0 (wc.heap[gb226]? = some (.cells #[u227000, .int .i64 0, (.slice none 0 0), .bool false, .int .i64 0, .int .i64 0] 30 (0, 0))) ∧ Aside0 (Below w.heap.size w wc))
      case first =>
       have H := HC13.out
       clear HC13
       by_cases c14 : t231 = true
       ·subst c14
        have H1 : (if t229 = true then (letterboxref15_what.j2 kj3 t228 t229 t230 (t228.toList == ([] : List UInt8)) x227000_1 0 false 0 0) else (letterboxref15_what.j2 kj3 t228 t229 t230 false x227000_1 0 false 0 0)) = some (r1, r2, r3, r4, r5, r6, r7) := by rw [if_pos rfl] at H; exact H
        clear H
        have H := H1
        clear H1
        by_cases c15 : t229 = true
        ·subst c15
         have H1 : (letterboxref15_what.j2 kj3 t228 true t230 (t228.toList == ([] : List UInt8)) x227000_1 0 false 0 0) = some (r1, r2, r3, r4, r5, r6, r7) := by rw [if_pos rfl] at H; exact H
         clear H
         have H := H1
         clear H1
         have H' := Aside0.mk H
         clear H
         go_wp2
         go_meet
         case rel => exact ⟨_, ((t228.toList == ([] : List UInt8))), qr_, H', ⟨by have := HK1.out; have := HJ3.out; first | omega | exact Nat.le_refl _⟩, ⟨ql_ HO_227000.out⟩, ⟨qk_ BK225.out⟩, ⟨qk_ BK226.out⟩, ⟨qb_ HB.out⟩⟩
        ·replace c15 := Bool.eq_false_iff.mpr c15
         subst c15
         have H1 : (letterboxref15_what.j2 kj3 t228 false t230 false x227000_1 0 false 0 0) = some (r1, r2, r3, r4, r5, r6, r7) := by rw [if_neg (show ¬ (false = true) by decide)] at H; exact H
         clear H
         have H := H1
         clear H1
         have H' := Aside0.mk H
         clear H
         go_wp2
         go_meet
         case rel => exact ⟨_, (false), qr_, H', ⟨by have := HK1.out; have := HJ3.out; first | omega | exact Nat.le_refl _⟩, ⟨ql_ HO_227000.out⟩, ⟨qk_ BK225.out⟩, ⟨qk_ BK226.out⟩, ⟨qb_ HB.out⟩⟩
       ·replace c14 := Bool.eq_false_iff.mpr c14
        subst c14
        have H1 : (letterboxref15_what.j2 kj3 t228 t229 t230 true x227000_1 0 false 0 0) = some (r1, r2, r3, r4, r5, r6, r7) := by rw [if_neg (show ¬ (false = true) by decide)] at H; exact H
        clear H
        have H := H1
        clear H1
        have H' := Aside0.mk H
        clear H
        go_wp2
        go_meet
        case rel => exact ⟨_, (true), qr_, H', ⟨by have := HK1.out; have := HJ3.out; first | omega | exact Nat.le_refl _⟩, ⟨ql_ HO_227000.out⟩, ⟨qk_ BK225.out⟩, ⟨qk_ BK226.out⟩, ⟨qb_ HB.out⟩⟩
      case rest =>
       clear HC13
       (try clear c10)
       obtain ⟨kq, x42_12, rfl, HA, HJ12, HO_227000, BK225, BK226, HB⟩ := hcut
       cases kq with
       | zero => exact absurd HA.out (by simp [letterboxref15_what.j2])
       | succ kj12 =>
        have H := HA.out
        clear HA
        simp only [letterboxref15_what.j2] at H
        by_cases c16 : x42_12 = true
        ·subst c16
         have H1 : (some (([] : List Int), 0, ([] : List ByteArray), false, 0, 0, false)) = some (r1, r2, r3, r4, r5, r6, r7) := by rw [if_pos rfl] at H; exact H
         clear H
         have H := H1
         clear H1
         simp only [Option.some.injEq, Prod.mk.injEq] at H
         obtain ⟨rfl, rfl, rfl, rfl, rfl, rfl, rfl⟩ := H
         have hnb17 := NB225_226.out
         have hnc17 := NB226_225.out
         obtain ⟨hcz18_0, hcz18_1, hcz18_2, hcz18_3, hcz18_4, hcz18_5, hfz18_0, hfz18_1, hfz18_2, hfz18_3, hfz18_4, hfz18_5⟩ := cz6_ BK225.out
         go_wp2
         refine bodyPost_ret (results_ct rfl _ _ gb225 30 #[.slice none 0 0, .int .i64 0, .slice none 0 0, .bool false, .int .i64 0, .int .i64 0] (0, 0) _ rfl (qs6_ (qk_ BK225.out)) Tryd.underlying30 rfl (by kernel_rfl)) rfl ?_
         exact ⟨_, _, qw_, qn_, qn_, qb_ HB.out⟩
        ·replace c16 := Bool.eq_false_iff.mpr c16
         subst c16
         have H1 : (if x227000_1.length < 17592186044416 then ((some (x227000_1 ++ [t230] : List Int)).bind fun y232 => (if t229 = true then (letterboxref15_what.l0 kj12 t228 y232 0 false 0 0) else (some (y232, 0, ([] : List ByteArray), false, 0, 0, true)))) else (none)) = some (r1, r2, r3, r4, r5, r6, r7) := by rw [if_neg (show ¬ (false = true) by decide)] at H; exact H
         clear H
         have H := H1
         clear H1
         by_cases c19 : x227000_1.length < 17592186044416
         ·rw [if_pos c19] at H
          have LMc19 := Aside0.mk c19
          clear c19
          obtain ⟨y232, hy232⟩ : ∃ y_ : List Int, y_ = (x227000_1 ++ [t230]) := ⟨_, rfl⟩
          replace H : (if t229 = true then (letterboxref15_what.l0 kj12 t228 y232 0 false 0 0) else (some (y232, 0, ([] : List ByteArray), false, 0, 0, true))) = some (r1, r2, r3, r4, r5, r6, r7) := by first | (rw [hy232]; with_reducible exact H) | (have H2_ := (Option.bind_some _ _).symm.trans H; rw [hy232]; with_reducible exact H2_) | (have H2_ := (Option.bind_some _ _).symm.trans H; with_reducible exact H2_) | with_reducible exact H | (rw [hy232]; exact H) | exact H
          have Ny232 := Aside0.mk hy232
          clear hy232
          by_cases c20 : t229 = true
          ·subst c20
           have H1 : (letterboxref15_what.l0 kj12 t228 y232 0 false 0 0) = some (r1, r2, r3, r4, r5, r6, r7) := by rw [if_pos rfl] at H; exact H
           clear H
           have H := H1
           clear H1
           have H' := Aside0.mk H
           clear H
           have hnb21 := NB226_225.out
           have hnc21 := NB225_226.out
           obtain ⟨hcz22_0, hcz22_1, hcz22_2, hcz22_3, hcz22_4, hcz22_5, hfz22_0, hfz22_1, hfz22_2, hfz22_3, hfz22_4, hfz22_5⟩ := cz6_ BK226.out
           go_wp2_with (first | ((with_reducible refine gate_builtin (b := .append) (xs := #[.tmp 45, .tmp 47]) rfl ?_); at_builtin; refine Kd.R_append (Kd.int .i64) (w0 := w) w.heap.size rfl (.tmp 45) (.tmp 47) 23 3 (.int .i64 0) 8 rfl Tryd.underlying23 info3 rfl (by decide) (by omega) u227000 x227000_1 t230 [.int .i64 t230] (fun _ => True) (fun _ => False) rfl rfl ?aP (fun _ hk => hk.elim) ?aF ?aO ?aB ?aS ?aL ?_; (case aP => exact rfl); (case aB => exact (qb_ HB.out)); (case aF => exact (fun _ _ => trivial)); (case aO => exact (ql_ HO_227000.out)); (case aS => exact (below_size (qb_ HB.out))); (case aL => have := LMc19.out; omega); intro v233 w23 ho hb hg hat; rw [← Ny232.out] at ho; have n0_ := Aside0.mk (blk_grown (g := gb225) (o := .cells #[.slice none 0 0, .int .i64 x226001_1, .slice none 0 0, .bool x226003_1, .int .i64 x226004_1, .int .i64 x226005_1] 30 (0, 0)) (qk_ BK225.out) hg (Kd.R_ne HO_227000.out BK225.out (by decide))); have n1_ := Aside0.mk (blk_grown (g := gb226) (o := .cells #[u227000, .int .i64 0, .slice none 0 0, .bool false, .int .i64 0, .int .i64 0] 30 (0, 0)) (qk_ BK226.out) hg (Kd.R_ne HO_227000.out BK226.out (by decide))); have n2_ := Aside0.mk (hb); have n3_ := Aside0.mk (ho); clear BK225; clear BK226; clear HB; clear HO_227000; have BK225 := n0_; have BK226 := n1_; have HB := n2_; have HO234 := n3_; clear n0_ n1_ n2_ n3_; clear ho hb hg hat; obtain ⟨Ao24, co24, eo24⟩ := Kd.R_slice HO234.out; subst eo24; have hcz25_0 : w23.cell? ⟨gb226, 0, none⟩ = some (u227000) := (blk_cell BK226.out 0).trans rfl; have hcz25_1 : w23.cell? ⟨gb226, 1, none⟩ = some (.int .i64 0) := (blk_cell BK226.out 1).trans rfl; have hcz25_2 : w23.cell? ⟨gb226, 2, none⟩ = some (.slice none 0 0) := (blk_cell BK226.out 2).trans rfl; have hcz25_3 : w23.cell? ⟨gb226, 3, none⟩ = some (.bool false) := (blk_cell BK226.out 3).trans rfl; have hcz25_4 : w23.cell? ⟨gb226, 4, none⟩ = some (.int .i64 0) := (blk_cell BK226.out 4).trans rfl; have hcz25_5 : w23.cell? ⟨gb226, 5, none⟩ = some (.int .i64 0) := (blk_cell BK226.out 5).trans rfl; have hfz25_0 := blk_frozen BK226.out 0; have hfz25_1 := blk_frozen BK226.out 1; have hfz25_2 := blk_frozen BK226.out 2; have hfz25_3 := blk_frozen BK226.out 3; have hfz25_4 := blk_frozen BK226.out 4; have hfz25_5 := blk_frozen BK226.out 5))
           go_roundg kj12
           case measure => have := HK1.out; have := HJ3.out; have := HJ12.out; omega
           case rel => exact ⟨(t228), (x226001_1), (x226003_1), (x226004_1), (x226005_1), (y232), (.slice Ao24 y232.length co24), qr_, H', ⟨by have := HK1.out; have := HJ3.out; have := HJ12.out; omega⟩, ⟨by (with_reducible repeat (first | apply Kd.R_alloc | apply Kd.R_drewN | apply Kd.R_drew)); exact Kd.R_mono (Kd.R_far (p := ⟨gb226, 0, none⟩) (Kd.R_types HO234.out BK226.out (by decide)) (fun _ hk => hk.2) (.slice Ao24 y232.length co24)) (fun _ hk => trivial)⟩, ⟨by (with_reducible repeat (first | refine blk_drewN ?_ _ | refine blk_drew ?_ | refine blk_alloc ?_ _)); refine blk_far ?_ NB225_226.out _; (with_reducible repeat (first | refine blk_drewN ?_ _ | refine blk_drew ?_ | refine blk_alloc ?_ _)); exact BK225.out⟩, ⟨by (with_reducible repeat (first | refine blk_drewN ?_ _ | refine blk_drew ?_ | refine blk_alloc ?_ _)); refine blk_put (cs := #[u227000, .int .i64 0, .slice none 0 0, .bool false, .int .i64 0, .int .i64 0]) ?_ 0 _ rfl; (with_reducible repeat (first | refine blk_drewN ?_ _ | refine blk_drew ?_ | refine blk_alloc ?_ _)); exact BK226.out⟩, ⟨qb_ HB.out⟩⟩
          ·replace c20 := Bool.eq_false_iff.mpr c20
           subst c20
           have H1 : (some (y232, 0, ([] : List ByteArray), false, 0, 0, true)) = some (r1, r2, r3, r4, r5, r6, r7) := by rw [if_neg (show ¬ (false = true) by decide)] at H; exact H
           clear H
           have H := H1
           clear H1
           simp only [Option.some.injEq, Prod.mk.injEq] at H
           obtain ⟨rfl, rfl, rfl, rfl, rfl, rfl, rfl⟩ := H
           have hnb26 := NB226_225.out
           have hnc26 := NB225_226.out
           obtain ⟨hcz27_0, hcz27_1, hcz27_2, hcz27_3, hcz27_4, hcz27_5, hfz27_0, hfz27_1, hfz27_2, hfz27_3, hfz27_4, hfz27_5⟩ := cz6_ BK226.out
           go_wp2_with (first | ((with_reducible refine gate_builtin (b := .append) (xs := #[.tmp 45, .tmp 47]) rfl ?_); at_builtin; refine Kd.R_append (Kd.int .i64) (w0 := w) w.heap.size rfl (.tmp 45) (.tmp 47) 23 3 (.int .i64 0) 8 rfl Tryd.underlying23 info3 rfl (by decide) (by omega) u227000 x227000_1 t230 [.int .i64 t230] (fun _ => True) (fun _ => False) rfl rfl ?aP (fun _ hk => hk.elim) ?aF ?aO ?aB ?aS ?aL ?_; (case aP => exact rfl); (case aB => exact (qb_ HB.out)); (case aF => exact (fun _ _ => trivial)); (case aO => exact (ql_ HO_227000.out)); (case aS => exact (below_size (qb_ HB.out))); (case aL => have := LMc19.out; omega); intro v233 w28 ho hb hg hat; rw [← Ny232.out] at ho; have n0_ := Aside0.mk (blk_grown (g := gb225) (o := .cells #[.slice none 0 0, .int .i64 x226001_1, .slice none 0 0, .bool x226003_1, .int .i64 x226004_1, .int .i64 x226005_1] 30 (0, 0)) (qk_ BK225.out) hg (Kd.R_ne HO_227000.out BK225.out (by decide))); have n1_ := Aside0.mk (blk_grown (g := gb226) (o := .cells #[u227000, .int .i64 0, .slice none 0 0, .bool false, .int .i64 0, .int .i64 0] 30 (0, 0)) (qk_ BK226.out) hg (Kd.R_ne HO_227000.out BK226.out (by decide))); have n2_ := Aside0.mk (hb); have n3_ := Aside0.mk (ho); clear BK225; clear BK226; clear HB; clear HO_227000; have BK225 := n0_; have BK226 := n1_; have HB := n2_; have HO234 := n3_; clear n0_ n1_ n2_ n3_; clear ho hb hg hat; obtain ⟨Ao29, co29, eo29⟩ := Kd.R_slice HO234.out; subst eo29; have hcz30_0 : w28.cell? ⟨gb226, 0, none⟩ = some (u227000) := (blk_cell BK226.out 0).trans rfl; have hcz30_1 : w28.cell? ⟨gb226, 1, none⟩ = some (.int .i64 0) := (blk_cell BK226.out 1).trans rfl; have hcz30_2 : w28.cell? ⟨gb226, 2, none⟩ = some (.slice none 0 0) := (blk_cell BK226.out 2).trans rfl; have hcz30_3 : w28.cell? ⟨gb226, 3, none⟩ = some (.bool false) := (blk_cell BK226.out 3).trans rfl; have hcz30_4 : w28.cell? ⟨gb226, 4, none⟩ = some (.int .i64 0) := (blk_cell BK226.out 4).trans rfl; have hcz30_5 : w28.cell? ⟨gb226, 5, none⟩ = some (.int .i64 0) := (blk_cell BK226.out 5).trans rfl; have hfz30_0 := blk_frozen BK226.out 0; have hfz30_1 := blk_frozen BK226.out 1; have hfz30_2 := blk_frozen BK226.out 2; have hfz30_3 := blk_frozen BK226.out 3; have hfz30_4 := blk_frozen BK226.out 4; have hfz30_5 := blk_frozen BK226.out 5; have hcz31_0 : w28.cell? ⟨gb225, 0, none⟩ = some (.slice none 0 0) := (blk_cell BK225.out 0).trans rfl; have hcz31_1 : w28.cell? ⟨gb225, 1, none⟩ = some (.int .i64 x226001_1) := (blk_cell BK225.out 1).trans rfl; have hcz31_2 : w28.cell? ⟨gb225, 2, none⟩ = some (.slice none 0 0) := (blk_cell BK225.out 2).trans rfl; have hcz31_3 : w28.cell? ⟨gb225, 3, none⟩ = some (.bool x226003_1) := (blk_cell BK225.out 3).trans rfl; have hcz31_4 : w28.cell? ⟨gb225, 4, none⟩ = some (.int .i64 x226004_1) := (blk_cell BK225.out 4).trans rfl; have hcz31_5 : w28.cell? ⟨gb225, 5, none⟩ = some (.int .i64 x226005_1) := (blk_cell BK225.out 5).trans rfl; have hfz31_0 := blk_frozen BK225.out 0; have hfz31_1 := blk_frozen BK225.out 1; have hfz31_2 := blk_frozen BK225.out 2; have hfz31_3 := blk_frozen BK225.out 3; have hfz31_4 := blk_frozen BK225.out 4; have hfz31_5 := blk_frozen BK225.out 5))
           refine bodyPost_ret (results_ct rfl _ _ gb225 30 #[.slice Ao29 y232.length co29, .int .i64 0, .slice none 0 0, .bool false, .int .i64 0, .int .i64 0] (0, 0) _ rfl (by (with_reducible repeat (first | refine blk_drewN ?_ _ | refine blk_drew ?_ | refine blk_alloc ?_ _)); refine blk_put (cs := #[.slice Ao29 y232.length co29, .int .i64 0, .slice none 0 0, .bool false, .int .i64 0, .int .i64 x226005_1]) ?_ 5 _ rfl; (with_reducible repeat (first | refine blk_drewN ?_ _ | refine blk_drew ?_ | refine blk_alloc ?_ _)); refine blk_put (cs := #[.slice Ao29 y232.length co29, .int .i64 0, .slice none 0 0, .bool false, .int .i64 x226004_1, .int .i64 x226005_1]) ?_ 4 _ rfl; (with_reducible repeat (first | refine blk_drewN ?_ _ | refine blk_drew ?_ | refine blk_alloc ?_ _)); refine blk_put (cs := #[.slice Ao29 y232.length co29, .int .i64 0, .slice none 0 0, .bool x226003_1, .int .i64 x226004_1, .int .i64 x226005_1]) ?_ 3 _ rfl; (with_reducible repeat (first | refine blk_drewN ?_ _ | refine blk_drew ?_ | refine blk_alloc ?_ _)); refine blk_put (cs := #[.slice Ao29 y232.length co29, .int .i64 0, .slice none 0 0, .bool x226003_1, .int .i64 x226004_1, .int .i64 x226005_1]) ?_ 2 _ rfl; (with_reducible repeat (first | refine blk_drewN ?_ _ | refine blk_drew ?_ | refine blk_alloc ?_ _)); refine blk_put (cs := #[.slice Ao29 y232.length co29, .int .i64 x226001_1, .slice none 0 0, .bool x226003_1, .int .i64 x226004_1, .int .i64 x226005_1]) ?_ 1 _ rfl; (with_reducible repeat (first | refine blk_drewN ?_ _ | refine blk_drew ?_ | refine blk_alloc ?_ _)); refine blk_put (cs := #[.slice none 0 0, .int .i64 x226001_1, .slice none 0 0, .bool x226003_1, .int .i64 x226004_1, .int .i64 x226005_1]) ?_ 0 _ rfl; (with_reducible repeat (first | refine blk_drewN ?_ _ | refine blk_drew ?_ | refine blk_alloc ?_ _)); refine blk_far ?_ NB225_226.out _; (with_reducible repeat (first | refine blk_drewN ?_ _ | refine blk_drew ?_ | refine blk_alloc ?_ _)); exact BK225.out) Tryd.underlying30 rfl (by kernel_rfl)) rfl ?_
           exact ⟨_, _, qw_, by (with_reducible repeat (first | apply Kd.R_alloc | apply Kd.R_drewN | apply Kd.R_drew)); exact Kd.R_mono (Kd.R_far (p := ⟨gb225, 5, none⟩) (Kd.R_far (p := ⟨gb225, 4, none⟩) (Kd.R_far (p := ⟨gb225, 3, none⟩) (Kd.R_far (p := ⟨gb225, 2, none⟩) (Kd.R_far (p := ⟨gb225, 1, none⟩) (Kd.R_far (p := ⟨gb225, 0, none⟩) (Kd.R_far (p := ⟨gb226, 0, none⟩) (Kd.R_types (Kd.R_types HO234.out BK226.out (by decide)) BK225.out (by decide)) (fun _ hk => hk.1.2) (.slice Ao29 y232.length co29)) (fun _ hk => hk.2) (.slice Ao29 y232.length co29)) (fun _ hk => hk.2) (.int .i64 0)) (fun _ hk => hk.2) (.slice none 0 0)) (fun _ hk => hk.2) (.bool false)) (fun _ hk => hk.2) (.int .i64 0)) (fun _ hk => hk.2) (.int .i64 0)) (fun _ hk => trivial), qn_, qb_ HB.out⟩
         ·rw [if_neg c19] at H
          exact absurd H (by simp)
     ·replace c10 := Bool.eq_false_iff.mpr c10
      subst c10
      have H1 : (if x0_1.toList = ([] : List UInt8) then (some (x227000_1, 0, ([] : List ByteArray), false, 0, 0, true)) else (letterboxref15_what.l1 kj3 x0_1 1 x227000_1 0 false 0 0)) = some (r1, r2, r3, r4, r5, r6, r7) := by rw [if_neg (show ¬ (false = true) by decide)] at H; exact H
      clear H
      have H := H1
      clear H1
      by_cases c32 : x0_1.toList = ([] : List UInt8)
      ·rw [if_pos c32] at H
       have c32b0 : (x0_1.toList == ([] : List UInt8)) = true := beq_iff_eq.mpr c32
       have c32b1 : (x0_1.toList != ([] : List UInt8)) = false := bne_eq_false_iff_eq.mpr c32
       clear c32
       simp only [Option.some.injEq, Prod.mk.injEq] at H
       obtain ⟨rfl, rfl, rfl, rfl, rfl, rfl, rfl⟩ := H
       have hnb33 := NB226_225.out
       have hnc33 := NB225_226.out
       obtain ⟨hcz34_0, hcz34_1, hcz34_2, hcz34_3, hcz34_4, hcz34_5, hfz34_0, hfz34_1, hfz34_2, hfz34_3, hfz34_4, hfz34_5⟩ := cz6_ BK226.out
       obtain ⟨Ao35, co35, eo35⟩ := Kd.R_slice HO_227000.out
       subst eo35
       obtain ⟨hcz36_0, hcz36_1, hcz36_2, hcz36_3, hcz36_4, hcz36_5, hfz36_0, hfz36_1, hfz36_2, hfz36_3, hfz36_4, hfz36_5⟩ := cz6_ BK225.out
       go_wp2
       refine bodyPost_ret (results_ct rfl _ _ gb225 30 #[.slice Ao35 x227000_1.length co35, .int .i64 0, .slice none 0 0, .bool false, .int .i64 0, .int .i64 0] (0, 0) _ rfl (qs6_ (qk_ BK225.out)) Tryd.underlying30 rfl (by kernel_rfl)) rfl ?_
       exact ⟨_, _, qw_, by (with_reducible repeat (first | apply Kd.R_alloc | apply Kd.R_drewN | apply Kd.R_drew)); exact Kd.R_mono (Kd.R_far (p := ⟨gb225, 5, none⟩) (Kd.R_far (p := ⟨gb225, 4, none⟩) (Kd.R_far (p := ⟨gb225, 3, none⟩) (Kd.R_far (p := ⟨gb225, 2, none⟩) (Kd.R_far (p := ⟨gb225, 1, none⟩) (Kd.R_far (p := ⟨gb225, 0, none⟩) (Kd.R_types HO_227000.out BK225.out (by decide)) (fun _ hk => hk.2) (.slice Ao35 x227000_1.length co35)) (fun _ hk => hk.2) (.int .i64 0)) (fun _ hk => hk.2) (.slice none 0 0)) (fun _ hk => hk.2) (.bool false)) (fun _ hk => hk.2) (.int .i64 0)) (fun _ hk => hk.2) (.int .i64 0)) (fun _ hk => trivial), qn_, qb_ HB.out⟩
      ·rw [if_neg c32] at H
       have c32b0 : (x0_1.toList == ([] : List UInt8)) = false := beq_eq_false_iff_ne.mpr c32
       have c32b1 : (x0_1.toList != ([] : List UInt8)) = true := bne_iff_ne.mpr c32
       have H' := Aside0.mk H
       clear H
       go_wp2
       go_loopg [10] kj3 (fun kq v10 w' => ∃ (x10_3 : Int) (x226001_3 : Int) (x226003_3 : Bool) (x226004_3 : Int) (x226005_3 : Int) (x227001_3 : Int), v10 = .int .i64 x10_3 ∧ Aside0 (letterboxref15_what.l1 kq x0_1 x10_3 x227000_1 x227001_3 false 0 0 = some (r1, r2, r3, r4, r5, r6, r7)) ∧ Aside0 (kq ≤ kj3) ∧ Aside0 (Kd.R (Kd.int .i64) 3 w' w.heap.size (fun _ => True) u227000 x227000_1) ∧ Aside0 (w'.heap[gb225]? = some (.cells #[(.slice none 0 0), .int .i64 x226001_3, (.slice none 0 0), .bool x226003_3, .int .i64 x226004_3, .int .i64 x226005_3] 30 (0, 0))) ∧ Aside0 (w'.heap[gb226]? = some (.cells #[u227000, .int .i64 x227001_3, (.slice none 0 0), .bool false, .int .i64 0, .int .i64 0] 30 (0, 0))) ∧ Aside0 (Below w.heap.size w w'))
       case atStart => exact ⟨(1), (x226001_1), (x226003_1), (x226004_1), (x226005_1), (0), qr_, H', ⟨Nat.le_refl _⟩, ⟨ql_ HO_227000.out⟩, ⟨qk_ BK225.out⟩, ⟨qk_ BK226.out⟩, ⟨qb_ HB.out⟩⟩
       case round =>
        clear H'
        obtain ⟨x10_3, x226001_3, x226003_3, x226004_3, x226005_3, x227001_3, rfl, HA, HK3, HO_227000, BK225, BK226, HB⟩ := hrel
        cases gk with
        | zero => exact absurd HA.out (by simp [letterboxref15_what.l1])
        | succ k3 =>
         have H := HA.out
         clear HA
         simp only [letterboxref15_what.l1] at H
         by_cases c37 : x10_3 < 6
         ·rw [if_pos c37] at H
          have c37b0 : decide (x10_3 < 6) = true := decide_eq_true c37
          clear c37
          replace H := Option.bind_eq_some_iff.mp H
          obtain ⟨t235, A380, H⟩ := H
          replace H : ((letterboxref01_Fold.f k3 t235).bind fun t236 => ((letterboxref01_Fold.f k3 x0_1).bind fun t237 => (if t236.toList = t237.toList then (some (x227000_1, x10_3, ([] : List ByteArray), false, 0, 0, true)) else (letterboxref15_what.l1 k3 x0_1 (wrap64 (x10_3 + 1)) x227000_1 x227001_3 false 0 0)))) = some (r1, r2, r3, r4, r5, r6, r7) := H
          have A38 := Aside0.mk A380
          clear A380
          replace H := Option.bind_eq_some_iff.mp H
          obtain ⟨t236, A390, H⟩ := H
          replace H : ((letterboxref01_Fold.f k3 x0_1).bind fun t237 => (if t236.toList = t237.toList then (some (x227000_1, x10_3, ([] : List ByteArray), false, 0, 0, true)) else (letterboxref15_what.l1 k3 x0_1 (wrap64 (x10_3 + 1)) x227000_1 x227001_3 false 0 0))) = some (r1, r2, r3, r4, r5, r6, r7) := H
          have A39 := Aside0.mk A390
          clear A390
          replace H := Option.bind_eq_some_iff.mp H
          obtain ⟨t237, A400, H⟩ := H
          replace H : (if t236.toList = t237.toList then (some (x227000_1, x10_3, ([] : List ByteArray), false, 0, 0, true)) else (letterboxref15_what.l1 k3 x0_1 (wrap64 (x10_3 + 1)) x227000_1 x227001_3 false 0 0)) = some (r1, r2, r3, r4, r5, r6, r7) := H
          have A40 := Aside0.mk A400
          clear A400
          by_cases c41 : t236.toList = t237.toList
          ·rw [if_pos c41] at H
           have c41b0 : (t236.toList == t237.toList) = true := beq_iff_eq.mpr c41
           have c41b1 : (t236.toList != t237.toList) = false := bne_eq_false_iff_eq.mpr c41
           clear c41
           simp only [Option.some.injEq, Prod.mk.injEq] at H
           obtain ⟨rfl, rfl, rfl, rfl, rfl, rfl, rfl⟩ := H
           go_wp2_with (first | ((with_reducible refine gate_callee (f := 34) rfl ?_); refine goesL_ (some 62) rfl rfl Tryd.func34 (by kernel_rfl) rfl #[.int .i64 x10_3] rfl qa_ ?_; (with_reducible refine (letterboxref15_word.calls x10_3 t235 _ A38.out).mono ?_); rintro e w42 ⟨rfl, hb⟩; refine ⟨_, rfl, ?_⟩; have n0_ := Aside0.mk (Kd.R_below (ql_ HO_227000.out) hb); have n1_ := Aside0.mk (blk_below (g := gb225) (o := .cells #[.slice none 0 0, .int .i64 x226001_3, .slice none 0 0, .bool x226003_3, .int .i64 x226004_3, .int .i64 x226005_3] 30 (0, 0)) (qk_ BK225.out) hb); have n2_ := Aside0.mk (blk_below (g := gb226) (o := .cells #[u227000, .int .i64 x227001_3, .slice none 0 0, .bool false, .int .i64 0, .int .i64 0] 30 (0, 0)) (qk_ BK226.out) hb); have n3_ := Aside0.mk (below_step (qb_ HB.out) hb); clear HO_227000; clear BK225; clear BK226; clear HB; have HO_227000 := n0_; have BK225 := n1_; have BK226 := n2_; have HB := n3_; clear n0_ n1_ n2_ n3_; (try clear hb); (try clear hb2); (try clear hk); (try clear hi)) | ((with_reducible refine gate_callee (f := 44) rfl ?_); refine goesL_ (some 63) rfl rfl Tryd.func44 (by kernel_rfl) rfl #[.string t235] rfl qa_ ?_; (with_reducible refine (letterboxref01_Fold.calls k3 t235 t236 _ A39.out).mono ?_); rintro e w43 ⟨rfl, hb⟩; refine ⟨_, rfl, ?_⟩; have n0_ := Aside0.mk (Kd.R_below (ql_ HO_227000.out) hb); have n1_ := Aside0.mk (blk_below (g := gb225) (o := .cells #[.slice none 0 0, .int .i64 x226001_3, .slice none 0 0, .bool x226003_3, .int .i64 x226004_3, .int .i64 x226005_3] 30 (0, 0)) (qk_ BK225.out) hb); have n2_ := Aside0.mk (blk_below (g := gb226) (o := .cells #[u227000, .int .i64 x227001_3, .slice none 0 0, .bool false, .int .i64 0, .int .i64 0] 30 (0, 0)) (qk_ BK226.out) hb); have n3_ := Aside0.mk (below_step (qb_ HB.out) hb); clear HO_227000; clear BK225; clear BK226; clear HB; have HO_227000 := n0_; have BK225 := n1_; have BK226 := n2_; have HB := n3_; clear n0_ n1_ n2_ n3_; (try clear hb); (try clear hb2); (try clear hk); (try clear hi)) | ((with_reducible refine gate_callee (f := 44) rfl ?_); refine goesL_ (some 65) rfl rfl Tryd.func44 (by kernel_rfl) rfl #[.string x0_1] rfl qa_ ?_; (with_reducible refine (letterboxref01_Fold.calls k3 x0_1 t237 _ A40.out).mono ?_); rintro e w44 ⟨rfl, hb⟩; refine ⟨_, rfl, ?_⟩; have n0_ := Aside0.mk (Kd.R_below (ql_ HO_227000.out) hb); have n1_ := Aside0.mk (blk_below (g := gb225) (o := .cells #[.slice none 0 0, .int .i64 x226001_3, .slice none 0 0, .bool x226003_3, .int .i64 x226004_3, .int .i64 x226005_3] 30 (0, 0)) (qk_ BK225.out) hb); have n2_ := Aside0.mk (blk_below (g := gb226) (o := .cells #[u227000, .int .i64 x227001_3, .slice none 0 0, .bool false, .int .i64 0, .int .i64 0] 30 (0, 0)) (qk_ BK226.out) hb); have n3_ := Aside0.mk (below_step (qb_ HB.out) hb); clear HO_227000; clear BK225; clear BK226; clear HB; have HO_227000 := n0_; have BK225 := n1_; have BK226 := n2_; have HB := n3_; clear n0_ n1_ n2_ n3_; (try clear hb); (try clear hb2); (try clear hk); (try clear hi); have hnb45 := NB226_225.out; have hnc45 := NB225_226.out; have hcz46_0 : w44.cell? ⟨gb226, 0, none⟩ = some (u227000) := (blk_cell BK226.out 0).trans rfl; have hcz46_1 : w44.cell? ⟨gb226, 1, none⟩ = some (.int .i64 x227001_3) := (blk_cell BK226.out 1).trans rfl; have hcz46_2 : w44.cell? ⟨gb226, 2, none⟩ = some (.slice none 0 0) := (blk_cell BK226.out 2).trans rfl; have hcz46_3 : w44.cell? ⟨gb226, 3, none⟩ = some (.bool false) := (blk_cell BK226.out 3).trans rfl; have hcz46_4 : w44.cell? ⟨gb226, 4, none⟩ = some (.int .i64 0) := (blk_cell BK226.out 4).trans rfl; have hcz46_5 : w44.cell? ⟨gb226, 5, none⟩ = some (.int .i64 0) := (blk_cell BK226.out 5).trans rfl; have hfz46_0 := blk_frozen BK226.out 0; have hfz46_1 := blk_frozen BK226.out 1; have hfz46_2 := blk_frozen BK226.out 2; have hfz46_3 := blk_frozen BK226.out 3; have hfz46_4 := blk_frozen BK226.out 4; have hfz46_5 := blk_frozen BK226.out 5; obtain ⟨Ao47, co47, eo47⟩ := Kd.R_slice HO_227000.out; subst eo47; have hcz48_0 : w44.cell? ⟨gb225, 0, none⟩ = some (.slice none 0 0) := (blk_cell BK225.out 0).trans rfl; have hcz48_1 : w44.cell? ⟨gb225, 1, none⟩ = some (.int .i64 x226001_3) := (blk_cell BK225.out 1).trans rfl; have hcz48_2 : w44.cell? ⟨gb225, 2, none⟩ = some (.slice none 0 0) := (blk_cell BK225.out 2).trans rfl; have hcz48_3 : w44.cell? ⟨gb225, 3, none⟩ = some (.bool x226003_3) := (blk_cell BK225.out 3).trans rfl; have hcz48_4 : w44.cell? ⟨gb225, 4, none⟩ = some (.int .i64 x226004_3) := (blk_cell BK225.out 4).trans rfl; have hcz48_5 : w44.cell? ⟨gb225, 5, none⟩ = some (.int .i64 x226005_3) := (blk_cell BK225.out 5).trans rfl; have hfz48_0 := blk_frozen BK225.out 0; have hfz48_1 := blk_frozen BK225.out 1; have hfz48_2 := blk_frozen BK225.out 2; have hfz48_3 := blk_frozen BK225.out 3; have hfz48_4 := blk_frozen BK225.out 4; have hfz48_5 := blk_frozen BK225.out 5))
           refine bodyPost_ret (results_ct rfl _ _ gb225 30 #[.slice Ao47 x227000_1.length co47, .int .i64 x10_3, .slice none 0 0, .bool false, .int .i64 0, .int .i64 0] (0, 0) _ rfl (by (with_reducible repeat (first | refine blk_drewN ?_ _ | refine blk_drew ?_ | refine blk_alloc ?_ _)); refine blk_put (cs := #[.slice Ao47 x227000_1.length co47, .int .i64 x10_3, .slice none 0 0, .bool false, .int .i64 0, .int .i64 x226005_3]) ?_ 5 _ rfl; (with_reducible repeat (first | refine blk_drewN ?_ _ | refine blk_drew ?_ | refine blk_alloc ?_ _)); refine blk_put (cs := #[.slice Ao47 x227000_1.length co47, .int .i64 x10_3, .slice none 0 0, .bool false, .int .i64 x226004_3, .int .i64 x226005_3]) ?_ 4 _ rfl; (with_reducible repeat (first | refine blk_drewN ?_ _ | refine blk_drew ?_ | refine blk_alloc ?_ _)); refine blk_put (cs := #[.slice Ao47 x227000_1.length co47, .int .i64 x10_3, .slice none 0 0, .bool x226003_3, .int .i64 x226004_3, .int .i64 x226005_3]) ?_ 3 _ rfl; (with_reducible repeat (first | refine blk_drewN ?_ _ | refine blk_drew ?_ | refine blk_alloc ?_ _)); refine blk_put (cs := #[.slice Ao47 x227000_1.length co47, .int .i64 x10_3, .slice none 0 0, .bool x226003_3, .int .i64 x226004_3, .int .i64 x226005_3]) ?_ 2 _ rfl; (with_reducible repeat (first | refine blk_drewN ?_ _ | refine blk_drew ?_ | refine blk_alloc ?_ _)); refine blk_put (cs := #[.slice Ao47 x227000_1.length co47, .int .i64 x226001_3, .slice none 0 0, .bool x226003_3, .int .i64 x226004_3, .int .i64 x226005_3]) ?_ 1 _ rfl; (with_reducible repeat (first | refine blk_drewN ?_ _ | refine blk_drew ?_ | refine blk_alloc ?_ _)); refine blk_put (cs := #[.slice none 0 0, .int .i64 x226001_3, .slice none 0 0, .bool x226003_3, .int .i64 x226004_3, .int .i64 x226005_3]) ?_ 0 _ rfl; (with_reducible repeat (first | refine blk_drewN ?_ _ | refine blk_drew ?_ | refine blk_alloc ?_ _)); refine blk_far ?_ NB225_226.out _; (with_reducible repeat (first | refine blk_drewN ?_ _ | refine blk_drew ?_ | refine blk_alloc ?_ _)); exact BK225.out) Tryd.underlying30 rfl (by kernel_rfl)) rfl ?_
           exact ⟨_, _, qw_, by (with_reducible repeat (first | apply Kd.R_alloc | apply Kd.R_drewN | apply Kd.R_drew)); exact Kd.R_mono (Kd.R_far (p := ⟨gb225, 5, none⟩) (Kd.R_far (p := ⟨gb225, 4, none⟩) (Kd.R_far (p := ⟨gb225, 3, none⟩) (Kd.R_far (p := ⟨gb225, 2, none⟩) (Kd.R_far (p := ⟨gb225, 1, none⟩) (Kd.R_far (p := ⟨gb225, 0, none⟩) (Kd.R_far (p := ⟨gb226, 1, none⟩) (Kd.R_types (Kd.R_types HO_227000.out BK226.out (by decide)) BK225.out (by decide)) (fun _ hk => hk.1.2) (.int .i64 x10_3)) (fun _ hk => hk.2) (.slice Ao47 x227000_1.length co47)) (fun _ hk => hk.2) (.int .i64 x10_3)) (fun _ hk => hk.2) (.slice none 0 0)) (fun _ hk => hk.2) (.bool false)) (fun _ hk => hk.2) (.int .i64 0)) (fun _ hk => hk.2) (.int .i64 0)) (fun _ hk => trivial), qn_, qb_ HB.out⟩
          ·rw [if_neg c41] at H
           have c41b0 : (t236.toList == t237.toList) = false := beq_eq_false_iff_ne.mpr c41
           have c41b1 : (t236.toList != t237.toList) = true := bne_iff_ne.mpr c41
           have H' := Aside0.mk H
           clear H
           go_wp2_with (first | ((with_reducible refine gate_callee (f := 34) rfl ?_); refine goesL_ (some 62) rfl rfl Tryd.func34 (by kernel_rfl) rfl #[.int .i64 x10_3] rfl qa_ ?_; (with_reducible refine (letterboxref15_word.calls x10_3 t235 _ A38.out).mono ?_); rintro e w49 ⟨rfl, hb⟩; refine ⟨_, rfl, ?_⟩; have n0_ := Aside0.mk (Kd.R_below (ql_ HO_227000.out) hb); have n1_ := Aside0.mk (blk_below (g := gb225) (o := .cells #[.slice none 0 0, .int .i64 x226001_3, .slice none 0 0, .bool x226003_3, .int .i64 x226004_3, .int .i64 x226005_3] 30 (0, 0)) (qk_ BK225.out) hb); have n2_ := Aside0.mk (blk_below (g := gb226) (o := .cells #[u227000, .int .i64 x227001_3, .slice none 0 0, .bool false, .int .i64 0, .int .i64 0] 30 (0, 0)) (qk_ BK226.out) hb); have n3_ := Aside0.mk (below_step (qb_ HB.out) hb); clear HO_227000; clear BK225; clear BK226; clear HB; have HO_227000 := n0_; have BK225 := n1_; have BK226 := n2_; have HB := n3_; clear n0_ n1_ n2_ n3_; (try clear hb); (try clear hb2); (try clear hk); (try clear hi)) | ((with_reducible refine gate_callee (f := 44) rfl ?_); refine goesL_ (some 63) rfl rfl Tryd.func44 (by kernel_rfl) rfl #[.string t235] rfl qa_ ?_; (with_reducible refine (letterboxref01_Fold.calls k3 t235 t236 _ A39.out).mono ?_); rintro e w50 ⟨rfl, hb⟩; refine ⟨_, rfl, ?_⟩; have n0_ := Aside0.mk (Kd.R_below (ql_ HO_227000.out) hb); have n1_ := Aside0.mk (blk_below (g := gb225) (o := .cells #[.slice none 0 0, .int .i64 x226001_3, .slice none 0 0, .bool x226003_3, .int .i64 x226004_3, .int .i64 x226005_3] 30 (0, 0)) (qk_ BK225.out) hb); have n2_ := Aside0.mk (blk_below (g := gb226) (o := .cells #[u227000, .int .i64 x227001_3, .slice none 0 0, .bool false, .int .i64 0, .int .i64 0] 30 (0, 0)) (qk_ BK226.out) hb); have n3_ := Aside0.mk (below_step (qb_ HB.out) hb); clear HO_227000; clear BK225; clear BK226; clear HB; have HO_227000 := n0_; have BK225 := n1_; have BK226 := n2_; have HB := n3_; clear n0_ n1_ n2_ n3_; (try clear hb); (try clear hb2); (try clear hk); (try clear hi)) | ((with_reducible refine gate_callee (f := 44) rfl ?_); refine goesL_ (some 65) rfl rfl Tryd.func44 (by kernel_rfl) rfl #[.string x0_1] rfl qa_ ?_; (with_reducible refine (letterboxref01_Fold.calls k3 x0_1 t237 _ A40.out).mono ?_); rintro e w51 ⟨rfl, hb⟩; refine ⟨_, rfl, ?_⟩; have n0_ := Aside0.mk (Kd.R_below (ql_ HO_227000.out) hb); have n1_ := Aside0.mk (blk_below (g := gb225) (o := .cells #[.slice none 0 0, .int .i64 x226001_3, .slice none 0 0, .bool x226003_3, .int .i64 x226004_3, .int .i64 x226005_3] 30 (0, 0)) (qk_ BK225.out) hb); have n2_ := Aside0.mk (blk_below (g := gb226) (o := .cells #[u227000, .int .i64 x227001_3, .slice none 0 0, .bool false, .int .i64 0, .int .i64 0] 30 (0, 0)) (qk_ BK226.out) hb); have n3_ := Aside0.mk (below_step (qb_ HB.out) hb); clear HO_227000; clear BK225; clear BK226; clear HB; have HO_227000 := n0_; have BK225 := n1_; have BK226 := n2_; have HB := n3_; clear n0_ n1_ n2_ n3_; (try clear hb); (try clear hb2); (try clear hk); (try clear hi)))
           go_roundg k3
           case measure => have := HK1.out; have := HJ3.out; have := HK3.out; omega
           case rel => exact ⟨(wrap64 (x10_3 + 1)), (x226001_3), (x226003_3), (x226004_3), (x226005_3), (x227001_3), qr_, H', ⟨by have := HK1.out; have := HJ3.out; have := HK3.out; omega⟩, ⟨ql_ HO_227000.out⟩, ⟨qk_ BK225.out⟩, ⟨qk_ BK226.out⟩, ⟨qb_ HB.out⟩⟩
         ·rw [if_neg c37] at H
          have c37b0 : decide (x10_3 < 6) = false := decide_eq_false c37
          clear c37
          simp only [Option.some.injEq, Prod.mk.injEq] at H
          obtain ⟨rfl, rfl, rfl, rfl, rfl, rfl, rfl⟩ := H
          have hnb52 := NB225_226.out
          have hnc52 := NB226_225.out
          obtain ⟨hcz53_0, hcz53_1, hcz53_2, hcz53_3, hcz53_4, hcz53_5, hfz53_0, hfz53_1, hfz53_2, hfz53_3, hfz53_4, hfz53_5⟩ := cz6_ BK225.out
          go_wp2
          refine bodyPost_ret (results_ct rfl _ _ gb225 30 #[.slice none 0 0, .int .i64 0, .slice none 0 0, .bool false, .int .i64 0, .int .i64 0] (0, 0) _ rfl (qs6_ (qk_ BK225.out)) Tryd.underlying30 rfl (by kernel_rfl)) rfl ?_
          exact ⟨_, _, qw_, qn_, qn_, qb_ HB.out⟩

end Go.Proofs.YtbjbagocnnffaaaDoor.P
