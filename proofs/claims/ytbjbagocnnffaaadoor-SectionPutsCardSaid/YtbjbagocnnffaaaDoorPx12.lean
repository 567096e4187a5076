-- Written by a program of this session (wip/tools/mk.sh) for this claim: it runs the kit's print with contracts of our own. Lean checks it.
import Derived.Test.YtbjbagocnnffaaaDoorPx0
import Derived.Test.YtbjbagocnnffaaaDoorWRepsOne
import Derived.Test.YtbjbagocnnffaaaDoorWGuard
import Derived.Test.YtbjbagocnnffaaaDoorZStr
namespace Go.Proofs.YtbjbagocnnffaaaDoor.P
open Go.RowKit Go.Proofs.YtbjbagocnnffaaaDoorW.PrintWords Go.Proofs.YtbjbagocnnffaaaDoorW.PrintLast Go.Proofs.YtbjbagocnnffaaaDoorW.PrintMore
attribute [-simp] Int.tmod_tmod_of_dvd
attribute [local go_sem] max2_int min2_int max_two min_two max_three min_three max_four min_four   -- for this text's walks alone
set_option linter.unusedVariables false
set_option linter.unusedSimpArgs false

/-! ### letterboxref15_Check: function 13 -/
mutual
def letterboxref15_Check.j0 : Nat → Bool → List Int → Int → List ByteArray → Bool → Int → Int → Option (Int)
 | 0, _, _, _, _, _, _, _ => none
 | k + 1, x3, x218000, x218001, x218002, x218003, x218004, x218005 => if x218001 < 0 then (letterboxref15_Check.j1 k true x218000 x218001 x218002 x218003 x218004 x218005) else (if x218001 > 5 then (letterboxref15_Check.j1 k true x218000 x218001 x218002 x218003 x218004 x218005) else (if (x218000.length : Int) > 64 then (letterboxref15_Check.j1 k true x218000 x218001 x218002 x218003 x218004 x218005) else (if x218001 = 5 then (if (x218000.length : Int) = 0 then (letterboxref15_Check.j1 k true x218000 x218001 x218002 x218003 x218004 x218005) else (if x3 = true then (if (x218002.length : Int) < 1 then (letterboxref15_Check.j1 k true x218000 x218001 x218002 x218003 x218004 x218005) else (if (x218002.length : Int) > 100 then (letterboxref15_Check.j1 k true x218000 x218001 x218002 x218003 x218004 x218005) else (letterboxref15_Check.j1 k false x218000 x218001 x218002 x218003 x218004 x218005))) else (letterboxref15_Check.j1 k (decide ((x218002.length : Int) > 0)) x218000 x218001 x218002 x218003 x218004 x218005))) else (if x3 = true then (if (x218002.length : Int) < 1 then (letterboxref15_Check.j1 k true x218000 x218001 x218002 x218003 x218004 x218005) else (if (x218002.length : Int) > 100 then (letterboxref15_Check.j1 k true x218000 x218001 x218002 x218003 x218004 x218005) else (letterboxref15_Check.j1 k false x218000 x218001 x218002 x218003 x218004 x218005))) else (letterboxref15_Check.j1 k (decide ((x218002.length : Int) > 0)) x218000 x218001 x218002 x218003 x218004 x218005)))))
def letterboxref15_Check.j1 : Nat → Bool → List Int → Int → List ByteArray → Bool → Int → Int → Option (Int)
 | 0, _, _, _, _, _, _, _ => none
 | k + 1, x64, x218000, x218001, x218002, x218003, x218004, x218005 => if x64 = true then (some 1) else (letterboxref15_Check.l0 k 0 x218000 x218001 x218002 x218003 x218004 x218005)
def letterboxref15_Check.l0 : Nat → Int → List Int → Int → List ByteArray → Bool → Int → Int → Option (Int)
 | 0, _, _, _, _, _, _, _ => none
 | k + 1, x4, x218000, x218001, x218002, x218003, x218004, x218005 => if x4 < (x218000.length : Int) then (if 0 ≤ x4 then (if (rd x218000 x4) < 1 then (some 1) else (if (rd x218000 x4) > 4294967295 then (some 1) else (letterboxref15_Check.l0 k (wrap64 (x4 + 1)) x218000 x218001 x218002 x218003 x218004 x218005))) else (none)) else (letterboxref15_Check.l1 k 0 x218000 x218001 x218002 x218003 x218004 x218005)
def letterboxref15_Check.l1 : Nat → Int → List Int → Int → List ByteArray → Bool → Int → Int → Option (Int)
 | 0, _, _, _, _, _, _, _ => none
 | k + 1, x5, x218000, x218001, x218002, x218003, x218004, x218005 => if x5 < (x218002.length : Int) then (letterboxref15_Check.l2 k x5 0 x218000 x218001 x218002 x218003 x218004 x218005) else (if x218003 = true then (if x218004 < 0 then (some 1) else (if x218004 > 4294967295 then (some 1) else (if x218005 < 1 then (some 1) else (if x218005 > 4294967295 then (some 1) else (some 0))))) else (if x218004 = 0 then (if x218005 = 0 then (some 0) else (some 1)) else (some 1)))
def letterboxref15_Check.l2 : Nat → Int → Int → List Int → Int → List ByteArray → Bool → Int → Int → Option (Int)
 | 0, _, _, _, _, _, _, _, _ => none
 | k + 1, x5, x6, x218000, x218001, x218002, x218003, x218004, x218005 => if 0 ≤ x5 then (if x5 < (x218002.length : Int) then (if x6 < ((rdOf ByteArray.empty x218002 x5).size : Int) then (if 0 ≤ x6 then (if (bt (rdOf ByteArray.empty x218002 x5) x6) < 32 then (some 1) else (if (bt (rdOf ByteArray.empty x218002 x5) x6) > 126 then (some 1) else (letterboxref15_Check.l2 k x5 (wrap64 (x6 + 1)) x218000 x218001 x218002 x218003 x218004 x218005))) else (none)) else (letterboxref15_Check.l1 k (wrap64 (x5 + 1)) x218000 x218001 x218002 x218003 x218004 x218005)) else (none)) else (none)
end
def letterboxref15_Check.f (k : Nat) (l0_0 : List Int) (a0_1 : Int) (l0_2 : List ByteArray) (a0_3 : Bool) (a0_4 : Int) (a0_5 : Int) : Option (Int) := if a0_1 = 2 then (letterboxref15_Check.j0 k true l0_0 a0_1 l0_2 a0_3 a0_4 a0_5) else (letterboxref15_Check.j0 k (a0_1 == 3) l0_0 a0_1 l0_2 a0_3 a0_4 a0_5)
theorem letterboxref15_Check.mono_l : ∀ k, (∀ y0 y1 y2 y3 y4 y5 y6, LeO (letterboxref15_Check.j0 k y0 y1 y2 y3 y4 y5 y6) (letterboxref15_Check.j0 (k + 1) y0 y1 y2 y3 y4 y5 y6)) ∧ (∀ y0 y1 y2 y3 y4 y5 y6, LeO (letterboxref15_Check.j1 k y0 y1 y2 y3 y4 y5 y6) (letterboxref15_Check.j1 (k + 1) y0 y1 y2 y3 y4 y5 y6)) ∧ (∀ y0 y1 y2 y3 y4 y5 y6, LeO (letterboxref15_Check.l0 k y0 y1 y2 y3 y4 y5 y6) (letterboxref15_Check.l0 (k + 1) y0 y1 y2 y3 y4 y5 y6)) ∧ (∀ y0 y1 y2 y3 y4 y5 y6, LeO (letterboxref15_Check.l1 k y0 y1 y2 y3 y4 y5 y6) (letterboxref15_Check.l1 (k + 1) y0 y1 y2 y3 y4 y5 y6)) ∧ (∀ y0 y1 y2 y3 y4 y5 y6 y7, LeO (letterboxref15_Check.l2 k y0 y1 y2 y3 y4 y5 y6 y7) (letterboxref15_Check.l2 (k + 1) y0 y1 y2 y3 y4 y5 y6 y7))
 | 0 => ⟨fun _ _ _ _ _ _ _ r h => by simp [letterboxref15_Check.j0] at h, fun _ _ _ _ _ _ _ r h => by simp [letterboxref15_Check.j1] at h, fun _ _ _ _ _ _ _ r h => by simp [letterboxref15_Check.l0] at h, fun _ _ _ _ _ _ _ r h => by simp [letterboxref15_Check.l1] at h, fun _ _ _ _ _ _ _ _ r h => by simp [letterboxref15_Check.l2] at h⟩
 | k + 1 => by
  obtain ⟨ih0, ih1, ih2, ih3, ih4⟩ := letterboxref15_Check.mono_l k
  refine ⟨?_, ?_, ?_, ?_, ?_⟩
  ·intro y0 y1 y2 y3 y4 y5 y6
   unfold letterboxref15_Check.j0
   repeat' first
   | (with_reducible exact ih0 _ _ _ _ _ _ _)
   | (with_reducible exact ih1 _ _ _ _ _ _ _)
   | (with_reducible exact ih2 _ _ _ _ _ _ _)
   | (with_reducible exact ih3 _ _ _ _ _ _ _)
   | (with_reducible exact ih4 _ _ _ _ _ _ _ _)
   | (with_reducible exact LeO.refl _)
   | (with_reducible exact LeO.none _)
   | (with_reducible refine LeO.ite ?_ ?_)
   | (with_reducible refine LeO.bind ?_ (fun _ => ?_))
   | exact ih0 _ _ _ _ _ _ _
   | exact ih1 _ _ _ _ _ _ _
   | exact ih2 _ _ _ _ _ _ _
   | exact ih3 _ _ _ _ _ _ _
   | exact ih4 _ _ _ _ _ _ _ _
   | exact LeO.none _
   | refine LeO.ite ?_ ?_
   | refine LeO.bind ?_ (fun _ => ?_)
  ·intro y0 y1 y2 y3 y4 y5 y6
   unfold letterboxref15_Check.j1
   repeat' first
   | (with_reducible exact ih0 _ _ _ _ _ _ _)
   | (with_reducible exact ih1 _ _ _ _ _ _ _)
   | (with_reducible exact ih2 _ _ _ _ _ _ _)
   | (with_reducible exact ih3 _ _ _ _ _ _ _)
   | (with_reducible exact ih4 _ _ _ _ _ _ _ _)
   | (with_reducible exact LeO.refl _)
   | (with_reducible exact LeO.none _)
   | (with_reducible refine LeO.ite ?_ ?_)
   | (with_reducible refine LeO.bind ?_ (fun _ => ?_))
   | exact ih0 _ _ _ _ _ _ _
   | exact ih1 _ _ _ _ _ _ _
   | exact ih2 _ _ _ _ _ _ _
   | exact ih3 _ _ _ _ _ _ _
   | exact ih4 _ _ _ _ _ _ _ _
   | exact LeO.none _
   | refine LeO.ite ?_ ?_
   | refine LeO.bind ?_ (fun _ => ?_)
  ·intro y0 y1 y2 y3 y4 y5 y6
   unfold letterboxref15_Check.l0
   repeat' first
   | (with_reducible exact ih0 _ _ _ _ _ _ _)
   | (with_reducible exact ih1 _ _ _ _ _ _ _)
   | (with_reducible exact ih2 _ _ _ _ _ _ _)
   | (with_reducible exact ih3 _ _ _ _ _ _ _)
   | (with_reducible exact ih4 _ _ _ _ _ _ _ _)
   | (with_reducible exact LeO.refl _)
   | (with_reducible exact LeO.none _)
   | (with_reducible refine LeO.ite ?_ ?_)
   | (with_reducible refine LeO.bind ?_ (fun _ => ?_))
   | exact ih0 _ _ _ _ _ _ _
   | exact ih1 _ _ _ _ _ _ _
   | exact ih2 _ _ _ _ _ _ _
   | exact ih3 _ _ _ _ _ _ _
   | exact ih4 _ _ _ _ _ _ _ _
   | exact LeO.none _
   | refine LeO.ite ?_ ?_
   | refine LeO.bind ?_ (fun _ => ?_)
  ·intro y0 y1 y2 y3 y4 y5 y6
   unfold letterboxref15_Check.l1
   repeat' first
   | (with_reducible exact ih0 _ _ _ _ _ _ _)
   | (with_reducible exact ih1 _ _ _ _ _ _ _)
   | (with_reducible exact ih2 _ _ _ _ _ _ _)
   | (with_reducible exact ih3 _ _ _ _ _ _ _)
   | (with_reducible exact ih4 _ _ _ _ _ _ _ _)
   | (with_reducible exact LeO.refl _)
   | (with_reducible exact LeO.none _)
   | (with_reducible refine LeO.ite ?_ ?_)
   | (with_reducible refine LeO.bind ?_ (fun _ => ?_))
   | exact ih0 _ _ _ _ _ _ _
   | exact ih1 _ _ _ _ _ _ _
   | exact ih2 _ _ _ _ _ _ _
   | exact ih3 _ _ _ _ _ _ _
   | exact ih4 _ _ _ _ _ _ _ _
   | exact LeO.none _
   | refine LeO.ite ?_ ?_
   | refine LeO.bind ?_ (fun _ => ?_)
  ·intro y0 y1 y2 y3 y4 y5 y6 y7
   unfold letterboxref15_Check.l2
   repeat' first
   | (with_reducible exact ih0 _ _ _ _ _ _ _)
   | (with_reducible exact ih1 _ _ _ _ _ _ _)
   | (with_reducible exact ih2 _ _ _ _ _ _ _)
   | (with_reducible exact ih3 _ _ _ _ _ _ _)
   | (with_reducible exact ih4 _ _ _ _ _ _ _ _)
   | (with_reducible exact LeO.refl _)
   | (with_reducible exact LeO.none _)
   | (with_reducible refine LeO.ite ?_ ?_)
   | (with_reducible refine LeO.bind ?_ (fun _ => ?_))
   | exact ih0 _ _ _ _ _ _ _
   | exact ih1 _ _ _ _ _ _ _
   | exact ih2 _ _ _ _ _ _ _
   | exact ih3 _ _ _ _ _ _ _
   | exact ih4 _ _ _ _ _ _ _ _
   | exact LeO.none _
   | refine LeO.ite ?_ ?_
   | refine LeO.bind ?_ (fun _ => ?_)
theorem letterboxref15_Check.mono : ∀ a0 a1 a2 a3 a4 a5 k, LeO (letterboxref15_Check.f k a0 a1 a2 a3 a4 a5) (letterboxref15_Check.f (k + 1) a0 a1 a2 a3 a4 a5) := by
 intro a0 a1 a2 a3 a4 a5 k
 obtain ⟨ih0, ih1, ih2, ih3, ih4⟩ := letterboxref15_Check.mono_l k
 unfold letterboxref15_Check.f
 repeat' first
   | (with_reducible exact ih0 _ _ _ _ _ _ _)
   | (with_reducible exact ih1 _ _ _ _ _ _ _)
   | (with_reducible exact ih2 _ _ _ _ _ _ _)
   | (with_reducible exact ih3 _ _ _ _ _ _ _)
   | (with_reducible exact ih4 _ _ _ _ _ _ _ _)
   | (with_reducible exact LeO.refl _)
   | (with_reducible exact LeO.none _)
   | (with_reducible refine LeO.ite ?_ ?_)
   | (with_reducible refine LeO.bind ?_ (fun _ => ?_))
   | exact ih0 _ _ _ _ _ _ _
   | exact ih1 _ _ _ _ _ _ _
   | exact ih2 _ _ _ _ _ _ _
   | exact ih3 _ _ _ _ _ _ _
   | exact ih4 _ _ _ _ _ _ _ _
   | exact LeO.none _
   | refine LeO.ite ?_ ?_
   | refine LeO.bind ?_ (fun _ => ?_)
set_option maxHeartbeats 8000000 in
set_option maxRecDepth 100000 in
theorem letterboxref15_Check.calls (k : Nat) (A0_0 : Option Addr) (c0_0 : Nat) (l0_0 : List Int) (a0_1 : Int) (A0_2 : Option Addr) (c0_2 : Nat) (l0_2 : List ByteArray) (a0_3 : Bool) (a0_4 : Int) (a0_5 : Int) (r : Int) (w : World) (hr0_0 : Kd.C (Kd.int .i64) w A0_0 l0_0.length l0_0) (hc0_0 : l0_0.length ≤ c0_0) (hr0_2 : Kd.C Kd.string w A0_2 l0_2.length l0_2) (hc0_2 : l0_2.length ≤ c0_2) (h : letterboxref15_Check.f k l0_0 a0_1 l0_2 a0_3 a0_4 a0_5 = some r) :
  Calls Tryd.prog 13 #[.agg #[.slice A0_0 l0_0.length c0_0, .int .i64 a0_1, .slice A0_2 l0_2.length c0_2, .bool a0_3, .int .i64 a0_4, .int .i64 a0_5]] w fun e w' => e = .returned (.int .i64 r) ∧ Below w.heap.size w w' := by
 have hu30 := Tryd.underlying30
 have HR0_0 := Aside0.mk hr0_0
 have HC0_0 := Aside0.mk hc0_0
 clear hr0_0 hc0_0
 have HR0_2 := Aside0.mk hr0_2
 have HC0_2 := Aside0.mk hc0_2
 clear hr0_2 hc0_2
 have HB := Aside0.mk (Below.refl w.heap.size w)
 have H : (if a0_1 = 2 then (letterboxref15_Check.j0 k true l0_0 a0_1 l0_2 a0_3 a0_4 a0_5) else (letterboxref15_Check.j0 k (a0_1 == 3) l0_0 a0_1 l0_2 a0_3 a0_4 a0_5)) = some r := h
 clear h
 have HC2 := Aside0.mk H
 clear H
 go_enter Tryd.func13, Tryd.ntmps13
 go_upto_region 1 with (first | ((with_reducible refine gate_dst (N := 1) rfl ?_); (try (refine gate_guard (by rfl) ?_; dsimp only)); refine box_event ?hg (N := 1) ?hd (cs := #[.slice A0_0 l0_0.length c0_0, .int .i64 a0_1, .slice A0_2 l0_2.length c0_2, .bool a0_3, .int .i64 a0_4, .int .i64 a0_5]) (t := 30) ?hr ?_; (case hd => rfl); (case hg => rfl); (case hr => first | (go_simp; done) | (go_simp; rfl)); intro gb217 hg w3 hbox hb; have n0_ := Aside0.mk (below_step (qb_ HB.out) hb); have n1_ := Aside0.mk (hbox); have n2_ := Aside0.mk ((by rw [hg]; exact (below_size (qb_ HB.out)) : w.heap.size ≤ gb217)); have n3_ := Aside0.mk ((by rw [hg]; exact (below_size (qb_ HB.out)) : w.heap.size ≤ gb217)); clear HB; have HB := n0_; have BK217 := n1_; have GW217 := n2_; have GE217 := n3_; clear n0_ n1_ n2_ n3_; clear hb hbox hg))
 (try simp only [Act.put, List.setIfInBounds_toArray, List.set_cons_zero, List.set_cons_succ])
 go_cut [3] (fun v3 wc => ∃ (kq : Nat) (x3_1 : Bool), v3 = .bool x3_1 ∧ Aside0 (letterboxref15_Check.j0 kq x3_1 l0_0 a0_1 l0_2 a0_3 a0_4 a0_5 = some r) ∧ Aside0 (kq ≤ k) ∧ Aside0 (wc.heap[gb217]? = some (.cells #[(.slice A0_0 l0_0.length c0_0), .int .i64 a0_1, (.slice A0_2 l0_2.length c0_2), .bool a0_3, .int .i64 a0_4, .int .i64 a0_5] 30 (0, 0))) ∧ Aside0 (Below w.heap.size w wc))
 case first =>
  have H := HC2.out
  clear HC2
  by_cases c4 : a0_1 = 2
  ·rw [if_pos c4] at H
   have c4b0 : (a0_1 == 2) = true := beq_iff_eq.mpr c4
   have c4b1 : (a0_1 != 2) = false := bne_eq_false_iff_eq.mpr c4
   clear c4
   (first | rw [c4b0] | (simp only [i64_w, i32_w]; rw [c4b0]) | skip)
   have H' := Aside0.mk H
   clear H
   obtain ⟨hcz5_0, hcz5_1, hcz5_2, hcz5_3, hcz5_4, hcz5_5, hfz5_0, hfz5_1, hfz5_2, hfz5_3, hfz5_4, hfz5_5⟩ := cz6_ BK217.out
   go_wp2
   go_meet
   case rel => exact ⟨_, (true), qr_, H', ⟨by first | omega | exact Nat.le_refl _⟩, ⟨qk_ BK217.out⟩, ⟨qb_ HB.out⟩⟩
  ·rw [if_neg c4] at H
   have c4b0 : (a0_1 == 2) = false := beq_eq_false_iff_ne.mpr c4
   have c4b1 : (a0_1 != 2) = true := bne_iff_ne.mpr c4
   (first | rw [c4b0] | (simp only [i64_w, i32_w]; rw [c4b0]) | skip)
   have H' := Aside0.mk H
   clear H
   obtain ⟨hcz6_0, hcz6_1, hcz6_2, hcz6_3, hcz6_4, hcz6_5, hfz6_0, hfz6_1, hfz6_2, hfz6_3, hfz6_4, hfz6_5⟩ := cz6_ BK217.out
   go_wp2
   go_meet
   case rel => exact ⟨_, ((a0_1 == 3)), qr_, H', ⟨by first | omega | exact Nat.le_refl _⟩, ⟨qk_ BK217.out⟩, ⟨qb_ HB.out⟩⟩
 case rest =>
  clear HC2
  obtain ⟨kq, x3_1, rfl, HA, HJ1, BK217, HB⟩ := hcut
  cases kq with
  | zero => exact absurd HA.out (by simp [letterboxref15_Check.j0])
  | succ kj1 =>
   have H := HA.out
   clear HA
   simp only [letterboxref15_Check.j0] at H
   have HC7 := Aside0.mk H
   clear H
   go_upto_region 2 with (fail)
   go_cut [64] (fun v64 wc => ∃ (kq : Nat) (x64_6 : Bool), v64 = .bool x64_6 ∧ Aside0 (letterboxref15_Check.j1 kq x64_6 l0_0 a0_1 l0_2 a0_3 a0_4 a0_5 = some r) ∧ Aside0 (kq ≤ kj1) ∧ Aside0 (wc.heap[gb217]? = some (.cells #[(.slice A0_0 l0_0.length c0_0), .int .i64 a0_1, (.slice A0_2 l0_2.length c0_2), .bool a0_3, .int .i64 a0_4, .int .i64 a0_5] 30 (0, 0))) ∧ Aside0 (Below w.heap.size w wc))
   case first =>
    have H := HC7.out
    clear HC7
    by_cases c8 : a0_1 < 0
    ·rw [if_pos c8] at H
     have c8b0 : decide (a0_1 < 0) = true := decide_eq_true c8
     clear c8
     (first | rw [c8b0] | (simp only [i64_w, i32_w]; rw [c8b0]) | skip)
     have H' := Aside0.mk H
     clear H
     obtain ⟨hcz9_0, hcz9_1, hcz9_2, hcz9_3, hcz9_4, hcz9_5, hfz9_0, hfz9_1, hfz9_2, hfz9_3, hfz9_4, hfz9_5⟩ := cz6_ BK217.out
     go_wp2
     go_meet
     case rel => exact ⟨_, (true), qr_, H', ⟨by have := HJ1.out; first | omega | exact Nat.le_refl _⟩, ⟨qk_ BK217.out⟩, ⟨qb_ HB.out⟩⟩
    ·rw [if_neg c8] at H
     have c8b0 : decide (a0_1 < 0) = false := decide_eq_false c8
     clear c8
     (first | rw [c8b0] | (simp only [i64_w, i32_w]; rw [c8b0]) | skip)
     by_cases c10 : a0_1 > 5
     ·rw [if_pos c10] at H
      have c10b0 : decide (5 < a0_1) = true := decide_eq_true c10
      clear c10
      have H' := Aside0.mk H
      clear H
      obtain ⟨hcz11_0, hcz11_1, hcz11_2, hcz11_3, hcz11_4, hcz11_5, hfz11_0, hfz11_1, hfz11_2, hfz11_3, hfz11_4, hfz11_5⟩ := cz6_ BK217.out
      go_wp2
      go_meet
      case rel => exact ⟨_, (true), qr_, H', ⟨by have := HJ1.out; first | omega | exact Nat.le_refl _⟩, ⟨qk_ BK217.out⟩, ⟨qb_ HB.out⟩⟩
     ·rw [if_neg c10] at H
      have c10b0 : decide (5 < a0_1) = false := decide_eq_false c10
      clear c10
      by_cases c12 : (l0_0.length : Int) > 64
      ·rw [if_pos c12] at H
       have c12b0 : decide (64 < (l0_0.length : Int)) = true := decide_eq_true c12
       have c12b1 : decide (64 < l0_0.length) = true := decide_eq_true (by omega)
       clear c12
       have H' := Aside0.mk H
       clear H
       obtain ⟨hcz13_0, hcz13_1, hcz13_2, hcz13_3, hcz13_4, hcz13_5, hfz13_0, hfz13_1, hfz13_2, hfz13_3, hfz13_4, hfz13_5⟩ := cz6_ BK217.out
       go_wp2
       go_meet
       case rel => exact ⟨_, (true), qr_, H', ⟨by have := HJ1.out; first | omega | exact Nat.le_refl _⟩, ⟨qk_ BK217.out⟩, ⟨qb_ HB.out⟩⟩
      ·rw [if_neg c12] at H
       have c12b0 : decide (64 < (l0_0.length : Int)) = false := decide_eq_false c12
       have c12b1 : decide (64 < l0_0.length) = false := decide_eq_false (by omega)
       clear c12
       by_cases c14 : a0_1 = 5
       ·rw [if_pos c14] at H
        have c14b0 : (a0_1 == 5) = true := beq_iff_eq.mpr c14
        have c14b1 : (a0_1 != 5) = false := bne_eq_false_iff_eq.mpr c14
        clear c14
        by_cases c15 : (l0_0.length : Int) = 0
        ·rw [if_pos c15] at H
         have c15b0 : ((l0_0.length : Int) == 0) = true := beq_iff_eq.mpr c15
         have c15b1 : ((l0_0.length : Int) != 0) = false := bne_eq_false_iff_eq.mpr c15
         clear c15
         have H' := Aside0.mk H
         clear H
         obtain ⟨hcz16_0, hcz16_1, hcz16_2, hcz16_3, hcz16_4, hcz16_5, hfz16_0, hfz16_1, hfz16_2, hfz16_3, hfz16_4, hfz16_5⟩ := cz6_ BK217.out
         go_wp2
         go_meet
         case rel => exact ⟨_, (true), qr_, H', ⟨by have := HJ1.out; first | omega | exact Nat.le_refl _⟩, ⟨qk_ BK217.out⟩, ⟨qb_ HB.out⟩⟩
        ·rw [if_neg c15] at H
         have c15b0 : ((l0_0.length : Int) == 0) = false := beq_eq_false_iff_ne.mpr c15
         have c15b1 : ((l0_0.length : Int) != 0) = true := bne_iff_ne.mpr c15
         have c15b2 : ¬ (l0_0 = []) := fun h_ => c15 (by rw [h_]; rfl)
         by_cases c17 : x3_1 = true
         ·subst c17
          have H1 : (if (l0_2.length : Int) < 1 then (letterboxref15_Check.j1 kj1 true l0_0 a0_1 l0_2 a0_3 a0_4 a0_5) else (if (l0_2.length : Int) > 100 then (letterboxref15_Check.j1 kj1 true l0_0 a0_1 l0_2 a0_3 a0_4 a0_5) else (letterboxref15_Check.j1 kj1 false l0_0 a0_1 l0_2 a0_3 a0_4 a0_5))) = some r := by rw [if_pos rfl] at H; exact H
          clear H
          have H := H1
          clear H1
          by_cases c18 : (l0_2.length : Int) < 1
          ·rw [if_pos c18] at H
           have c18b0 : decide ((l0_2.length : Int) < 1) = true := decide_eq_true c18
           have c18b1 : decide (l0_2.length < 1) = true := decide_eq_true (by omega)
           clear c18
           have H' := Aside0.mk H
           clear H
           obtain ⟨hcz19_0, hcz19_1, hcz19_2, hcz19_3, hcz19_4, hcz19_5, hfz19_0, hfz19_1, hfz19_2, hfz19_3, hfz19_4, hfz19_5⟩ := cz6_ BK217.out
           go_wp2
           go_meet
           case rel => exact ⟨_, (true), qr_, H', ⟨by have := HJ1.out; first | omega | exact Nat.le_refl _⟩, ⟨qk_ BK217.out⟩, ⟨qb_ HB.out⟩⟩
          ·rw [if_neg c18] at H
           have c18b0 : decide ((l0_2.length : Int) < 1) = false := decide_eq_false c18
           have c18b1 : decide (l0_2.length < 1) = false := decide_eq_false (by omega)
           clear c18
           by_cases c20 : (l0_2.length : Int) > 100
           ·rw [if_pos c20] at H
            have c20b0 : decide (100 < (l0_2.length : Int)) = true := decide_eq_true c20
            have c20b1 : decide (100 < l0_2.length) = true := decide_eq_true (by omega)
            clear c20
            have H' := Aside0.mk H
            clear H
            obtain ⟨hcz21_0, hcz21_1, hcz21_2, hcz21_3, hcz21_4, hcz21_5, hfz21_0, hfz21_1, hfz21_2, hfz21_3, hfz21_4, hfz21_5⟩ := cz6_ BK217.out
            go_wp2
            go_meet
            case rel => exact ⟨_, (true), qr_, H', ⟨by have := HJ1.out; first | omega | exact Nat.le_refl _⟩, ⟨qk_ BK217.out⟩, ⟨qb_ HB.out⟩⟩
           ·rw [if_neg c20] at H
            have c20b0 : decide (100 < (l0_2.length : Int)) = false := decide_eq_false c20
            have c20b1 : decide (100 < l0_2.length) = false := decide_eq_false (by omega)
            clear c20
            have H' := Aside0.mk H
            clear H
            obtain ⟨hcz22_0, hcz22_1, hcz22_2, hcz22_3, hcz22_4, hcz22_5, hfz22_0, hfz22_1, hfz22_2, hfz22_3, hfz22_4, hfz22_5⟩ := cz6_ BK217.out
            go_wp2
            go_meet
            case rel => exact ⟨_, (false), qr_, H', ⟨by have := HJ1.out; first | omega | exact Nat.le_refl _⟩, ⟨qk_ BK217.out⟩, ⟨qb_ HB.out⟩⟩
         ·replace c17 := Bool.eq_false_iff.mpr c17
          subst c17
          have H1 : (letterboxref15_Check.j1 kj1 (decide ((l0_2.length : Int) > 0)) l0_0 a0_1 l0_2 a0_3 a0_4 a0_5) = some r := by rw [if_neg (show ¬ (false = true) by decide)] at H; exact H
          clear H
          have H := H1
          clear H1
          have H' := Aside0.mk H
          clear H
          obtain ⟨hcz23_0, hcz23_1, hcz23_2, hcz23_3, hcz23_4, hcz23_5, hfz23_0, hfz23_1, hfz23_2, hfz23_3, hfz23_4, hfz23_5⟩ := cz6_ BK217.out
          go_wp2
          go_meet
          case rel => exact ⟨_, (decide ((l0_2.length : Int) > 0)), qr_, H', ⟨by have := HJ1.out; first | omega | exact Nat.le_refl _⟩, ⟨qk_ BK217.out⟩, ⟨qb_ HB.out⟩⟩
       ·rw [if_neg c14] at H
        have c14b0 : (a0_1 == 5) = false := beq_eq_false_iff_ne.mpr c14
        have c14b1 : (a0_1 != 5) = true := bne_iff_ne.mpr c14
        by_cases c24 : x3_1 = true
        ·subst c24
         have H1 : (if (l0_2.length : Int) < 1 then (letterboxref15_Check.j1 kj1 true l0_0 a0_1 l0_2 a0_3 a0_4 a0_5) else (if (l0_2.length : Int) > 100 then (letterboxref15_Check.j1 kj1 true l0_0 a0_1 l0_2 a0_3 a0_4 a0_5) else (letterboxref15_Check.j1 kj1 false l0_0 a0_1 l0_2 a0_3 a0_4 a0_5))) = some r := by rw [if_pos rfl] at H; exact H
         clear H
         have H := H1
         clear H1
         by_cases c25 : (l0_2.length : Int) < 1
         ·rw [if_pos c25] at H
          have c25b0 : decide ((l0_2.length : Int) < 1) = true := decide_eq_true c25
          have c25b1 : decide (l0_2.length < 1) = true := decide_eq_true (by omega)
          clear c25
          have H' := Aside0.mk H
          clear H
          obtain ⟨hcz26_0, hcz26_1, hcz26_2, hcz26_3, hcz26_4, hcz26_5, hfz26_0, hfz26_1, hfz26_2, hfz26_3, hfz26_4, hfz26_5⟩ := cz6_ BK217.out
          go_wp2
          go_meet
          case rel => exact ⟨_, (true), qr_, H', ⟨by have := HJ1.out; first | omega | exact Nat.le_refl _⟩, ⟨qk_ BK217.out⟩, ⟨qb_ HB.out⟩⟩
         ·rw [if_neg c25] at H
          have c25b0 : decide ((l0_2.length : Int) < 1) = false := decide_eq_false c25
          have c25b1 : decide (l0_2.length < 1) = false := decide_eq_false (by omega)
          clear c25
          by_cases c27 : (l0_2.length : Int) > 100
          ·rw [if_pos c27] at H
           have c27b0 : decide (100 < (l0_2.length : Int)) = true := decide_eq_true c27
           have c27b1 : decide (100 < l0_2.length) = true := decide_eq_true (by omega)
           clear c27
           have H' := Aside0.mk H
           clear H
           obtain ⟨hcz28_0, hcz28_1, hcz28_2, hcz28_3, hcz28_4, hcz28_5, hfz28_0, hfz28_1, hfz28_2, hfz28_3, hfz28_4, hfz28_5⟩ := cz6_ BK217.out
           go_wp2
           go_meet
           case rel => exact ⟨_, (true), qr_, H', ⟨by have := HJ1.out; first | omega | exact Nat.le_refl _⟩, ⟨qk_ BK217.out⟩, ⟨qb_ HB.out⟩⟩
          ·rw [if_neg c27] at H
           have c27b0 : decide (100 < (l0_2.length : Int)) = false := decide_eq_false c27
           have c27b1 : decide (100 < l0_2.length) = false := decide_eq_false (by omega)
           clear c27
           have H' := Aside0.mk H
           clear H
           obtain ⟨hcz29_0, hcz29_1, hcz29_2, hcz29_3, hcz29_4, hcz29_5, hfz29_0, hfz29_1, hfz29_2, hfz29_3, hfz29_4, hfz29_5⟩ := cz6_ BK217.out
           go_wp2
           go_meet
           case rel => exact ⟨_, (false), qr_, H', ⟨by have := HJ1.out; first | omega | exact Nat.le_refl _⟩, ⟨qk_ BK217.out⟩, ⟨qb_ HB.out⟩⟩
        ·replace c24 := Bool.eq_false_iff.mpr c24
         subst c24
         have H1 : (letterboxref15_Check.j1 kj1 (decide ((l0_2.length : Int) > 0)) l0_0 a0_1 l0_2 a0_3 a0_4 a0_5) = some r := by rw [if_neg (show ¬ (false = true) by decide)] at H; exact H
         clear H
         have H := H1
         clear H1
         have H' := Aside0.mk H
         clear H
         obtain ⟨hcz30_0, hcz30_1, hcz30_2, hcz30_3, hcz30_4, hcz30_5, hfz30_0, hfz30_1, hfz30_2, hfz30_3, hfz30_4, hfz30_5⟩ := cz6_ BK217.out
         go_wp2
         go_meet
         case rel => exact ⟨_, (decide ((l0_2.length : Int) > 0)), qr_, H', ⟨by have := HJ1.out; first | omega | exact Nat.le_refl _⟩, ⟨qk_ BK217.out⟩, ⟨qb_ HB.out⟩⟩
   case rest =>
    clear HC7
    obtain ⟨kq, x64_6, rfl, HA, HJ6, BK217, HB⟩ := hcut
    cases kq with
    | zero => exact absurd HA.out (by simp [letterboxref15_Check.j1])
    | succ kj6 =>
     have H := HA.out
     clear HA
     simp only [letterboxref15_Check.j1] at H
     by_cases c31 : x64_6 = true
     ·subst c31
      have H1 : (some 1) = some r := by rw [if_pos rfl] at H; exact H
      clear H
      have H := H1
      clear H1
      obtain rfl := Option.some.inj H
      go_wp2
      go_ret
      exact ⟨qw_, qb_ HB.out⟩
     ·replace c31 := Bool.eq_false_iff.mpr c31
      subst c31
      have H1 : (letterboxref15_Check.l0 kj6 0 l0_0 a0_1 l0_2 a0_3 a0_4 a0_5) = some r := by rw [if_neg (show ¬ (false = true) by decide)] at H; exact H
      clear H
      have H := H1
      clear H1
      have H' := Aside0.mk H
      clear H
      go_wp2
      go_loopg [4] kj6 (fun kq v4 w' => ∃ (x4_3 : Int), v4 = .int .i64 x4_3 ∧ Aside0 (letterboxref15_Check.l0 kq x4_3 l0_0 a0_1 l0_2 a0_3 a0_4 a0_5 = some r) ∧ Aside0 (kq ≤ kj6) ∧ Aside0 (w'.heap[gb217]? = some (.cells #[(.slice A0_0 l0_0.length c0_0), .int .i64 a0_1, (.slice A0_2 l0_2.length c0_2), .bool a0_3, .int .i64 a0_4, .int .i64 a0_5] 30 (0, 0))) ∧ Aside0 (Below w.heap.size w w'))
      case atStart => exact ⟨(0), qr_, H', ⟨Nat.le_refl _⟩, ⟨qk_ BK217.out⟩, ⟨qb_ HB.out⟩⟩
      case round =>
       clear H'
       (try clear c31)
       obtain ⟨x4_3, rfl, HA, HK3, BK217, HB⟩ := hrel
       cases gk with
       | zero => exact absurd HA.out (by simp [letterboxref15_Check.l0])
       | succ k3 =>
        have H := HA.out
        clear HA
        simp only [letterboxref15_Check.l0] at H
        by_cases c32 : x4_3 < (l0_0.length : Int)
        ·rw [if_pos c32] at H
         have c32b0 : decide (x4_3 < (l0_0.length : Int)) = true := decide_eq_true c32
         clear c32
         by_cases c33 : 0 ≤ x4_3
         ·rw [if_pos c33] at H
          have c33b0 : decide (0 ≤ x4_3) = true := decide_eq_true c33
          clear c33
          by_cases c34 : (rd l0_0 x4_3) < 1
          ·rw [if_pos c34] at H
           have c34b0 : decide ((rd l0_0 x4_3) < 1) = true := decide_eq_true c34
           clear c34
           obtain rfl := Option.some.inj H
           obtain ⟨hcz35_0, hcz35_1, hcz35_2, hcz35_3, hcz35_4, hcz35_5, hfz35_0, hfz35_1, hfz35_2, hfz35_3, hfz35_4, hfz35_5⟩ := cz6_ BK217.out
           have p218 : 0 ≤ (x4_3 : Int) := qd_
           have q218 : x4_3 < (l0_0.length : Int) := qd_
           obtain ⟨ad218, e218, hx218_0⟩ := Kd.at_int HR0_0.out x4_3 p218 q218
           cases e218
           replace hx218_0 := (HB.out.cell (World.block_lt_of_cell? w _ hx218_0)).trans hx218_0
           replace p218 := eq_true p218
           replace q218 := eq_true q218
           go_wp2
           go_ret
           exact ⟨qw_, qb_ HB.out⟩
          ·rw [if_neg c34] at H
           have c34b0 : decide ((rd l0_0 x4_3) < 1) = false := decide_eq_false c34
           clear c34
           by_cases c36 : (rd l0_0 x4_3) > 4294967295
           ·rw [if_pos c36] at H
            have c36b0 : decide (4294967295 < (rd l0_0 x4_3)) = true := decide_eq_true c36
            clear c36
            obtain rfl := Option.some.inj H
            obtain ⟨hcz37_0, hcz37_1, hcz37_2, hcz37_3, hcz37_4, hcz37_5, hfz37_0, hfz37_1, hfz37_2, hfz37_3, hfz37_4, hfz37_5⟩ := cz6_ BK217.out
            have p218 : 0 ≤ (x4_3 : Int) := qd_
            have q218 : x4_3 < (l0_0.length : Int) := qd_
            obtain ⟨ad218, e218, hx218_0⟩ := Kd.at_int HR0_0.out x4_3 p218 q218
            cases e218
            replace hx218_0 := (HB.out.cell (World.block_lt_of_cell? w _ hx218_0)).trans hx218_0
            replace p218 := eq_true p218
            replace q218 := eq_true q218
            have p219 : 0 ≤ (x4_3 : Int) := qd_
            have q219 : x4_3 < (l0_0.length : Int) := qd_
            obtain ⟨ad219, e219, hx219_0⟩ := Kd.at_int HR0_0.out x4_3 p219 q219
            obtain rfl : ad218 = ad219 := (by injection e219)
            replace hx219_0 := (HB.out.cell (World.block_lt_of_cell? w _ hx219_0)).trans hx219_0
            replace p219 := eq_true p219
            replace q219 := eq_true q219
            go_wp2
            go_ret
            exact ⟨qw_, qb_ HB.out⟩
           ·rw [if_neg c36] at H
            have c36b0 : decide (4294967295 < (rd l0_0 x4_3)) = false := decide_eq_false c36
            clear c36
            have H' := Aside0.mk H
            clear H
            obtain ⟨hcz38_0, hcz38_1, hcz38_2, hcz38_3, hcz38_4, hcz38_5, hfz38_0, hfz38_1, hfz38_2, hfz38_3, hfz38_4, hfz38_5⟩ := cz6_ BK217.out
            have p218 : 0 ≤ (x4_3 : Int) := qd_
            have q218 : x4_3 < (l0_0.length : Int) := qd_
            obtain ⟨ad218, e218, hx218_0⟩ := Kd.at_int HR0_0.out x4_3 p218 q218
            cases e218
            replace hx218_0 := (HB.out.cell (World.block_lt_of_cell? w _ hx218_0)).trans hx218_0
            replace p218 := eq_true p218
            replace q218 := eq_true q218
            have p219 : 0 ≤ (x4_3 : Int) := qd_
            have q219 : x4_3 < (l0_0.length : Int) := qd_
            obtain ⟨ad219, e219, hx219_0⟩ := Kd.at_int HR0_0.out x4_3 p219 q219
            obtain rfl : ad218 = ad219 := (by injection e219)
            replace hx219_0 := (HB.out.cell (World.block_lt_of_cell? w _ hx219_0)).trans hx219_0
            replace p219 := eq_true p219
            replace q219 := eq_true q219
            go_wp2
            go_roundg k3
            case measure => have := HJ1.out; have := HJ6.out; have := HK3.out; omega
            case rel => exact ⟨(wrap64 (x4_3 + 1)), qr_, H', ⟨by have := HJ1.out; have := HJ6.out; have := HK3.out; omega⟩, ⟨qk_ BK217.out⟩, ⟨qb_ HB.out⟩⟩
         ·rw [if_neg c33] at H
          exact absurd H (by simp)
        ·rw [if_neg c32] at H
         have c32b0 : decide (x4_3 < (l0_0.length : Int)) = false := decide_eq_false c32
         clear c32
         have H' := Aside0.mk H
         clear H
         obtain ⟨hcz39_0, hcz39_1, hcz39_2, hcz39_3, hcz39_4, hcz39_5, hfz39_0, hfz39_1, hfz39_2, hfz39_3, hfz39_4, hfz39_5⟩ := cz6_ BK217.out
         go_wp2
         go_loopg [5] k3 (fun kq v5 w' => ∃ (x5_4 : Int), v5 = .int .i64 x5_4 ∧ Aside0 (letterboxref15_Check.l1 kq x5_4 l0_0 a0_1 l0_2 a0_3 a0_4 a0_5 = some r) ∧ Aside0 (kq ≤ k3) ∧ Aside0 (w'.heap[gb217]? = some (.cells #[(.slice A0_0 l0_0.length c0_0), .int .i64 a0_1, (.slice A0_2 l0_2.length c0_2), .bool a0_3, .int .i64 a0_4, .int .i64 a0_5] 30 (0, 0))) ∧ Aside0 (Below w.heap.size w w'))
         case atStart => exact ⟨(0), qr_, H', ⟨Nat.le_refl _⟩, ⟨qk_ BK217.out⟩, ⟨qb_ HB.out⟩⟩
         case round =>
          clear H'
          obtain ⟨x5_4, rfl, HA, HK4, BK217, HB⟩ := hrel
          cases gk with
          | zero => exact absurd HA.out (by simp [letterboxref15_Check.l1])
          | succ k4 =>
           have H := HA.out
           clear HA
           simp only [letterboxref15_Check.l1] at H
           by_cases c40 : x5_4 < (l0_2.length : Int)
           ·rw [if_pos c40] at H
            have c40b0 : decide (x5_4 < (l0_2.length : Int)) = true := decide_eq_true c40
            clear c40
            have H' := Aside0.mk H
            clear H
            obtain ⟨hcz41_0, hcz41_1, hcz41_2, hcz41_3, hcz41_4, hcz41_5, hfz41_0, hfz41_1, hfz41_2, hfz41_3, hfz41_4, hfz41_5⟩ := cz6_ BK217.out
            go_wp2
            go_loopg [6] k4 (fun kq v6 w' => ∃ (x6_5 : Int), v6 = .int .i64 x6_5 ∧ Aside0 (letterboxref15_Check.l2 kq x5_4 x6_5 l0_0 a0_1 l0_2 a0_3 a0_4 a0_5 = some r) ∧ Aside0 (kq ≤ k4) ∧ Aside0 (w'.heap[gb217]? = some (.cells #[(.slice A0_0 l0_0.length c0_0), .int .i64 a0_1, (.slice A0_2 l0_2.length c0_2), .bool a0_3, .int .i64 a0_4, .int .i64 a0_5] 30 (0, 0))) ∧ Aside0 (Below w.heap.size w w'))
            case atStart => exact ⟨(0), qr_, H', ⟨Nat.le_refl _⟩, ⟨qk_ BK217.out⟩, ⟨qb_ HB.out⟩⟩
            case round =>
             clear H'
             obtain ⟨x6_5, rfl, HA, HK5, BK217, HB⟩ := hrel
             cases gk with
             | zero => exact absurd HA.out (by simp [letterboxref15_Check.l2])
             | succ k5 =>
              have H := HA.out
              clear HA
              simp only [letterboxref15_Check.l2] at H
              by_cases c42 : 0 ≤ x5_4
              ·rw [if_pos c42] at H
               have c42b0 : decide (0 ≤ x5_4) = true := decide_eq_true c42
               clear c42
               by_cases c43 : x5_4 < (l0_2.length : Int)
               ·rw [if_pos c43] at H
                have c43b0 : decide (x5_4 < (l0_2.length : Int)) = true := decide_eq_true c43
                clear c43
                by_cases c44 : x6_5 < ((rdOf ByteArray.empty l0_2 x5_4).size : Int)
                ·rw [if_pos c44] at H
                 have c44b0 : decide (x6_5 < ((rdOf ByteArray.empty l0_2 x5_4).size : Int)) = true := decide_eq_true c44
                 clear c44
                 by_cases c45 : 0 ≤ x6_5
                 ·rw [if_pos c45] at H
                  have c45b0 : decide (0 ≤ x6_5) = true := decide_eq_true c45
                  clear c45
                  by_cases c47 : (bt (rdOf ByteArray.empty l0_2 x5_4) x6_5) < 32
                  ·rw [if_pos c47] at H
                   have c47b0 : decide ((bt (rdOf ByteArray.empty l0_2 x5_4) x6_5) < 32) = true := decide_eq_true c47
                   clear c47
                   obtain rfl := Option.some.inj H
                   obtain ⟨hcz48_0, hcz48_1, hcz48_2, hcz48_3, hcz48_4, hcz48_5, hfz48_0, hfz48_1, hfz48_2, hfz48_3, hfz48_4, hfz48_5⟩ := cz6_ BK217.out
                   have p220 : 0 ≤ (x5_4 : Int) := qd_
                   have q220 : x5_4 < (l0_2.length : Int) := qd_
                   obtain ⟨ad220, e220, hx220_0⟩ := Kd.at_string HR0_2.out x5_4 p220 q220
                   cases e220
                   replace hx220_0 := (HB.out.cell (World.block_lt_of_cell? w _ hx220_0)).trans hx220_0
                   replace p220 := eq_true p220
                   replace q220 := eq_true q220
                   have p221 : 0 ≤ (x5_4 : Int) := qd_
                   have q221 : x5_4 < (l0_2.length : Int) := qd_
                   obtain ⟨ad221, e221, hx221_0⟩ := Kd.at_string HR0_2.out x5_4 p221 q221
                   obtain rfl : ad220 = ad221 := (by injection e221)
                   replace hx221_0 := (HB.out.cell (World.block_lt_of_cell? w _ hx221_0)).trans hx221_0
                   replace p221 := eq_true p221
                   replace q221 := eq_true q221
                   have p46 : 0 ≤ (x6_5 : Int) := qd_
                   have q46 : x6_5 < ((rdOf ByteArray.empty l0_2 x5_4).size : Int) := qd_
                   have hx46 := bt_at (rdOf ByteArray.empty l0_2 x5_4) x6_5
                   replace p46 := eq_true p46
                   replace q46 := eq_true q46
                   go_wp2
                   go_ret
                   exact ⟨qw_, qb_ HB.out⟩
                  ·rw [if_neg c47] at H
                   have c47b0 : decide ((bt (rdOf ByteArray.empty l0_2 x5_4) x6_5) < 32) = false := decide_eq_false c47
                   clear c47
                   by_cases c50 : (bt (rdOf ByteArray.empty l0_2 x5_4) x6_5) > 126
                   ·rw [if_pos c50] at H
                    have c50b0 : decide (126 < (bt (rdOf ByteArray.empty l0_2 x5_4) x6_5)) = true := decide_eq_true c50
                    clear c50
                    obtain rfl := Option.some.inj H
                    obtain ⟨hcz51_0, hcz51_1, hcz51_2, hcz51_3, hcz51_4, hcz51_5, hfz51_0, hfz51_1, hfz51_2, hfz51_3, hfz51_4, hfz51_5⟩ := cz6_ BK217.out
                    have p220 : 0 ≤ (x5_4 : Int) := qd_
                    have q220 : x5_4 < (l0_2.length : Int) := qd_
                    obtain ⟨ad220, e220, hx220_0⟩ := Kd.at_string HR0_2.out x5_4 p220 q220
                    cases e220
                    replace hx220_0 := (HB.out.cell (World.block_lt_of_cell? w _ hx220_0)).trans hx220_0
                    replace p220 := eq_true p220
                    replace q220 := eq_true q220
                    have p221 : 0 ≤ (x5_4 : Int) := qd_
                    have q221 : x5_4 < (l0_2.length : Int) := qd_
                    obtain ⟨ad221, e221, hx221_0⟩ := Kd.at_string HR0_2.out x5_4 p221 q221
                    obtain rfl : ad220 = ad221 := (by injection e221)
                    replace hx221_0 := (HB.out.cell (World.block_lt_of_cell? w _ hx221_0)).trans hx221_0
                    replace p221 := eq_true p221
                    replace q221 := eq_true q221
                    have p46 : 0 ≤ (x6_5 : Int) := qd_
                    have q46 : x6_5 < ((rdOf ByteArray.empty l0_2 x5_4).size : Int) := qd_
                    have hx46 := bt_at (rdOf ByteArray.empty l0_2 x5_4) x6_5
                    replace p46 := eq_true p46
                    replace q46 := eq_true q46
                    have p222 : 0 ≤ (x5_4 : Int) := qd_
                    have q222 : x5_4 < (l0_2.length : Int) := qd_
                    obtain ⟨ad222, e222, hx222_0⟩ := Kd.at_string HR0_2.out x5_4 p222 q222
                    obtain rfl : ad220 = ad222 := (by injection e222)
                    replace hx222_0 := (HB.out.cell (World.block_lt_of_cell? w _ hx222_0)).trans hx222_0
                    replace p222 := eq_true p222
                    replace q222 := eq_true q222
                    have p49 : 0 ≤ (x6_5 : Int) := qd_
                    have q49 : x6_5 < ((rdOf ByteArray.empty l0_2 x5_4).size : Int) := qd_
                    have hx49 := bt_at (rdOf ByteArray.empty l0_2 x5_4) x6_5
                    replace p49 := eq_true p49
                    replace q49 := eq_true q49
                    go_wp2
                    go_ret
                    exact ⟨qw_, qb_ HB.out⟩
                   ·rw [if_neg c50] at H
                    have c50b0 : decide (126 < (bt (rdOf ByteArray.empty l0_2 x5_4) x6_5)) = false := decide_eq_false c50
                    clear c50
                    have H' := Aside0.mk H
                    clear H
                    obtain ⟨hcz52_0, hcz52_1, hcz52_2, hcz52_3, hcz52_4, hcz52_5, hfz52_0, hfz52_1, hfz52_2, hfz52_3, hfz52_4, hfz52_5⟩ := cz6_ BK217.out
                    have p220 : 0 ≤ (x5_4 : Int) := qd_
                    have q220 : x5_4 < (l0_2.length : Int) := qd_
                    obtain ⟨ad220, e220, hx220_0⟩ := Kd.at_string HR0_2.out x5_4 p220 q220
                    cases e220
                    replace hx220_0 := (HB.out.cell (World.block_lt_of_cell? w _ hx220_0)).trans hx220_0
                    replace p220 := eq_true p220
                    replace q220 := eq_true q220
                    have p221 : 0 ≤ (x5_4 : Int) := qd_
                    have q221 : x5_4 < (l0_2.length : Int) := qd_
                    obtain ⟨ad221, e221, hx221_0⟩ := Kd.at_string HR0_2.out x5_4 p221 q221
                    obtain rfl : ad220 = ad221 := (by injection e221)
                    replace hx221_0 := (HB.out.cell (World.block_lt_of_cell? w _ hx221_0)).trans hx221_0
                    replace p221 := eq_true p221
                    replace q221 := eq_true q221
                    have p46 : 0 ≤ (x6_5 : Int) := qd_
                    have q46 : x6_5 < ((rdOf ByteArray.empty l0_2 x5_4).size : Int) := qd_
                    have hx46 := bt_at (rdOf ByteArray.empty l0_2 x5_4) x6_5
                    replace p46 := eq_true p46
                    replace q46 := eq_true q46
                    have p222 : 0 ≤ (x5_4 : Int) := qd_
                    have q222 : x5_4 < (l0_2.length : Int) := qd_
                    obtain ⟨ad222, e222, hx222_0⟩ := Kd.at_string HR0_2.out x5_4 p222 q222
                    obtain rfl : ad220 = ad222 := (by injection e222)
                    replace hx222_0 := (HB.out.cell (World.block_lt_of_cell? w _ hx222_0)).trans hx222_0
                    replace p222 := eq_true p222
                    replace q222 := eq_true q222
                    have p49 : 0 ≤ (x6_5 : Int) := qd_
                    have q49 : x6_5 < ((rdOf ByteArray.empty l0_2 x5_4).size : Int) := qd_
                    have hx49 := bt_at (rdOf ByteArray.empty l0_2 x5_4) x6_5
                    replace p49 := eq_true p49
                    replace q49 := eq_true q49
                    go_wp2
                    go_roundg k5
                    case measure => have := HJ1.out; have := HJ6.out; have := HK3.out; have := HK4.out; have := HK5.out; omega
                    case rel => exact ⟨(wrap64 (x6_5 + 1)), qr_, H', ⟨by have := HJ1.out; have := HJ6.out; have := HK3.out; have := HK4.out; have := HK5.out; omega⟩, ⟨qk_ BK217.out⟩, ⟨qb_ HB.out⟩⟩
                 ·rw [if_neg c45] at H
                  exact absurd H (by simp)
                ·rw [if_neg c44] at H
                 have c44b0 : decide (x6_5 < ((rdOf ByteArray.empty l0_2 x5_4).size : Int)) = false := decide_eq_false c44
                 clear c44
                 have H' := Aside0.mk H
                 clear H
                 obtain ⟨hcz53_0, hcz53_1, hcz53_2, hcz53_3, hcz53_4, hcz53_5, hfz53_0, hfz53_1, hfz53_2, hfz53_3, hfz53_4, hfz53_5⟩ := cz6_ BK217.out
                 have p220 : 0 ≤ (x5_4 : Int) := qd_
                 have q220 : x5_4 < (l0_2.length : Int) := qd_
                 obtain ⟨ad220, e220, hx220_0⟩ := Kd.at_string HR0_2.out x5_4 p220 q220
                 cases e220
                 replace hx220_0 := (HB.out.cell (World.block_lt_of_cell? w _ hx220_0)).trans hx220_0
                 replace p220 := eq_true p220
                 replace q220 := eq_true q220
                 go_wp2
                 go_roundg k5
                 case measure => have := HJ1.out; have := HJ6.out; have := HK3.out; have := HK4.out; have := HK5.out; omega
                 case rel => exact ⟨(wrap64 (x5_4 + 1)), qr_, H', ⟨by have := HJ1.out; have := HJ6.out; have := HK3.out; have := HK4.out; have := HK5.out; omega⟩, ⟨qk_ BK217.out⟩, ⟨qb_ HB.out⟩⟩
               ·rw [if_neg c43] at H
                exact absurd H (by simp)
              ·rw [if_neg c42] at H
               exact absurd H (by simp)
           ·rw [if_neg c40] at H
            have c40b0 : decide (x5_4 < (l0_2.length : Int)) = false := decide_eq_false c40
            clear c40
            by_cases c54 : a0_3 = true
            ·subst c54
             have H1 : (if a0_4 < 0 then (some 1) else (if a0_4 > 4294967295 then (some 1) else (if a0_5 < 1 then (some 1) else (if a0_5 > 4294967295 then (some 1) else (some 0))))) = some r := by rw [if_pos rfl] at H; exact H
             clear H
             have H := H1
             clear H1
             by_cases c55 : a0_4 < 0
             ·rw [if_pos c55] at H
              have c55b0 : decide (a0_4 < 0) = true := decide_eq_true c55
              clear c55
              obtain rfl := Option.some.inj H
              obtain ⟨hcz56_0, hcz56_1, hcz56_2, hcz56_3, hcz56_4, hcz56_5, hfz56_0, hfz56_1, hfz56_2, hfz56_3, hfz56_4, hfz56_5⟩ := cz6_ BK217.out
              go_wp2
              go_ret
              exact ⟨qw_, qb_ HB.out⟩
             ·rw [if_neg c55] at H
              have c55b0 : decide (a0_4 < 0) = false := decide_eq_false c55
              clear c55
              by_cases c57 : a0_4 > 4294967295
              ·rw [if_pos c57] at H
               have c57b0 : decide (4294967295 < a0_4) = true := decide_eq_true c57
               clear c57
               obtain rfl := Option.some.inj H
               obtain ⟨hcz58_0, hcz58_1, hcz58_2, hcz58_3, hcz58_4, hcz58_5, hfz58_0, hfz58_1, hfz58_2, hfz58_3, hfz58_4, hfz58_5⟩ := cz6_ BK217.out
               go_wp2
               go_ret
               exact ⟨qw_, qb_ HB.out⟩
              ·rw [if_neg c57] at H
               have c57b0 : decide (4294967295 < a0_4) = false := decide_eq_false c57
               clear c57
               by_cases c59 : a0_5 < 1
               ·rw [if_pos c59] at H
                have c59b0 : decide (a0_5 < 1) = true := decide_eq_true c59
                clear c59
                obtain rfl := Option.some.inj H
                obtain ⟨hcz60_0, hcz60_1, hcz60_2, hcz60_3, hcz60_4, hcz60_5, hfz60_0, hfz60_1, hfz60_2, hfz60_3, hfz60_4, hfz60_5⟩ := cz6_ BK217.out
                go_wp2
                go_ret
                exact ⟨qw_, qb_ HB.out⟩
               ·rw [if_neg c59] at H
                have c59b0 : decide (a0_5 < 1) = false := decide_eq_false c59
                clear c59
                by_cases c61 : a0_5 > 4294967295
                ·rw [if_pos c61] at H
                 have c61b0 : decide (4294967295 < a0_5) = true := decide_eq_true c61
                 clear c61
                 obtain rfl := Option.some.inj H
                 obtain ⟨hcz62_0, hcz62_1, hcz62_2, hcz62_3, hcz62_4, hcz62_5, hfz62_0, hfz62_1, hfz62_2, hfz62_3, hfz62_4, hfz62_5⟩ := cz6_ BK217.out
                 go_wp2
                 go_ret
                 exact ⟨qw_, qb_ HB.out⟩
                ·rw [if_neg c61] at H
                 have c61b0 : decide (4294967295 < a0_5) = false := decide_eq_false c61
                 clear c61
                 obtain rfl := Option.some.inj H
                 obtain ⟨hcz63_0, hcz63_1, hcz63_2, hcz63_3, hcz63_4, hcz63_5, hfz63_0, hfz63_1, hfz63_2, hfz63_3, hfz63_4, hfz63_5⟩ := cz6_ BK217.out
                 go_wp2
                 go_ret
                 exact ⟨qw_, qb_ HB.out⟩
            ·replace c54 := Bool.eq_false_iff.mpr c54
             subst c54
             have H1 : (if a0_4 = 0 then (if a0_5 = 0 then (some 0) else (some 1)) else (some 1)) = some r := by rw [if_neg (show ¬ (false = true) by decide)] at H; exact H
             clear H
             have H := H1
             clear H1
             by_cases c64 : a0_4 = 0
             ·rw [if_pos c64] at H
              have c64b0 : (a0_4 == 0) = true := beq_iff_eq.mpr c64
              have c64b1 : (a0_4 != 0) = false := bne_eq_false_iff_eq.mpr c64
              clear c64
              by_cases c65 : a0_5 = 0
              ·rw [if_pos c65] at H
               have c65b0 : (a0_5 == 0) = true := beq_iff_eq.mpr c65
               have c65b1 : (a0_5 != 0) = false := bne_eq_false_iff_eq.mpr c65
               clear c65
               obtain rfl := Option.some.inj H
               obtain ⟨hcz66_0, hcz66_1, hcz66_2, hcz66_3, hcz66_4, hcz66_5, hfz66_0, hfz66_1, hfz66_2, hfz66_3, hfz66_4, hfz66_5⟩ := cz6_ BK217.out
               go_wp2
               go_ret
               exact ⟨qw_, qb_ HB.out⟩
              ·rw [if_neg c65] at H
               have c65b0 : (a0_5 == 0) = false := beq_eq_false_iff_ne.mpr c65
               have c65b1 : (a0_5 != 0) = true := bne_iff_ne.mpr c65
               obtain rfl := Option.some.inj H
               obtain ⟨hcz67_0, hcz67_1, hcz67_2, hcz67_3, hcz67_4, hcz67_5, hfz67_0, hfz67_1, hfz67_2, hfz67_3, hfz67_4, hfz67_5⟩ := cz6_ BK217.out
               go_wp2
               go_ret
               exact ⟨qw_, qb_ HB.out⟩
             ·rw [if_neg c64] at H
              have c64b0 : (a0_4 == 0) = false := beq_eq_false_iff_ne.mpr c64
              have c64b1 : (a0_4 != 0) = true := bne_iff_ne.mpr c64
              obtain rfl := Option.some.inj H
              obtain ⟨hcz68_0, hcz68_1, hcz68_2, hcz68_3, hcz68_4, hcz68_5, hfz68_0, hfz68_1, hfz68_2, hfz68_3, hfz68_4, hfz68_5⟩ := cz6_ BK217.out
              go_wp2
              go_ret
              exact ⟨qw_, qb_ HB.out⟩

end Go.Proofs.YtbjbagocnnffaaaDoor.P
