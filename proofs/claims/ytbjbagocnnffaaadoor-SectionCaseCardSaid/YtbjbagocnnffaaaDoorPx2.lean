-- Written by a program of this session (wip/tools/mk.sh) for this claim: it runs the kit's print with contracts of our own. Lean checks it.
import Derived.Test.YtbjbagocnnffaaaDoorPx0
import Derived.Test.YtbjbagocnnffaaaDoorWRepsOne
import Derived.Test.YtbjbagocnnffaaaDoorWGuard
import Derived.Test.YtbjbagocnnffaaaDoorZStr
import Derived.Test.YtbjbagocnnffaaaDoorPx1
namespace Go.Proofs.YtbjbagocnnffaaaDoor.P
open Go.RowKit Go.Proofs.YtbjbagocnnffaaaDoorW.PrintWords Go.Proofs.YtbjbagocnnffaaaDoorW.PrintLast Go.Proofs.YtbjbagocnnffaaaDoorW.PrintMore
attribute [-simp] Int.tmod_tmod_of_dvd
attribute [local go_sem] max2_int min2_int max_two min_two max_three min_three max_four min_four   -- for this text's walks alone
set_option linter.unusedVariables false
set_option linter.unusedSimpArgs false

/-! ### section_Check: function 12 -/
mutual
def section_Check.j0 : Nat → Bool → List Int → Int → List ByteArray → Bool → Int → Int → Option (Int)
 | 0, _, _, _, _, _, _, _ => none
 | k + 1, x3, x103000, x103001, x103002, x103003, x103004, x103005 => section_Check.l0 k x3 x103000 (x103000.length : Int) 0 x103000 x103001 x103002 x103003 x103004 x103005
def section_Check.l0 : Nat → Bool → List Int → Int → Int → List Int → Int → List ByteArray → Bool → Int → Int → Option (Int)
 | 0, _, _, _, _, _, _, _, _, _, _ => none
 | k + 1, x3, x34, x35, x36, x103000, x103001, x103002, x103003, x103004, x103005 => if x36 < x35 then (if 0 ≤ x36 then (if x36 < (x34.length : Int) then (if x3 = true then ((section_within.f (rd x34 x36) 1).bind fun t104 => (section_Check.l0 k t104 x34 x35 (wrap64 (x36 + 1)) x103000 x103001 x103002 x103003 x103004 x103005)) else (section_Check.l0 k false x34 x35 (wrap64 (x36 + 1)) x103000 x103001 x103002 x103003 x103004 x103005)) else (none)) else (none)) else (section_Check.l1 k x3 x103002 (x103002.length : Int) 0 x103000 x103001 x103002 x103003 x103004 x103005)
def section_Check.l1 : Nat → Bool → List ByteArray → Int → Int → List Int → Int → List ByteArray → Bool → Int → Int → Option (Int)
 | 0, _, _, _, _, _, _, _, _, _, _ => none
 | k + 1, x3, x47, x48, x49, x103000, x103001, x103002, x103003, x103004, x103005 => if x49 < x48 then (if 0 ≤ x49 then (if x49 < (x47.length : Int) then (if x3 = true then ((section_printed.f k (rdOf ByteArray.empty x47 x49)).bind fun t106 => (section_Check.l1 k t106 x47 x48 (wrap64 (x49 + 1)) x103000 x103001 x103002 x103003 x103004 x103005)) else (section_Check.l1 k false x47 x48 (wrap64 (x49 + 1)) x103000 x103001 x103002 x103003 x103004 x103005)) else (none)) else (none)) else ((section_Spec_listed.f x103000 x103001 x103002 x103003 x103004 x103005).bind fun t107 => (if t107 = true then (if x3 = true then (if (x103002.length : Int) ≥ 1 then (section_Check.j3 k (decide ((x103002.length : Int) ≤ 100)) x103000 x103001 x103002 x103003 x103004 x103005) else (section_Check.j3 k false x103000 x103001 x103002 x103003 x103004 x103005)) else (section_Check.j3 k false x103000 x103001 x103002 x103003 x103004 x103005)) else (if x3 = true then (section_Check.j3 k ((x103002.length : Int) == 0) x103000 x103001 x103002 x103003 x103004 x103005) else (section_Check.j3 k false x103000 x103001 x103002 x103003 x103004 x103005))))
def section_Check.j3 : Nat → Bool → List Int → Int → List ByteArray → Bool → Int → Int → Option (Int)
 | 0, _, _, _, _, _, _, _ => none
 | k + 1, x3, x103000, x103001, x103002, x103003, x103004, x103005 => if x103003 = true then (if x3 = true then ((section_within.f x103004 0).bind fun t108 => (if t108 = true then ((section_within.f x103005 1).bind fun t109 => (if t109 = true then (some 0) else (some 1))) else (some 1))) else (some 1)) else (if x3 = true then (if x103004 = 0 then (if x103005 = 0 then (some 0) else (some 1)) else (some 1)) else (some 1))
end
def section_Check.f (k : Nat) (l0_0 : List Int) (a0_1 : Int) (l0_2 : List ByteArray) (a0_3 : Bool) (a0_4 : Int) (a0_5 : Int) : Option (Int) := if (l0_0.length : Int) ≤ 64 then (if a0_1 ≥ 0 then (if a0_1 ≤ 5 then (if a0_1 = 5 then (section_Check.j0 k (decide ((l0_0.length : Int) > 0)) l0_0 a0_1 l0_2 a0_3 a0_4 a0_5) else (section_Check.j0 k true l0_0 a0_1 l0_2 a0_3 a0_4 a0_5)) else (section_Check.j0 k false l0_0 a0_1 l0_2 a0_3 a0_4 a0_5)) else (section_Check.j0 k false l0_0 a0_1 l0_2 a0_3 a0_4 a0_5)) else (section_Check.j0 k false l0_0 a0_1 l0_2 a0_3 a0_4 a0_5)
theorem section_Check.mono_l : ∀ k, (∀ y0 y1 y2 y3 y4 y5 y6, LeO (section_Check.j0 k y0 y1 y2 y3 y4 y5 y6) (section_Check.j0 (k + 1) y0 y1 y2 y3 y4 y5 y6)) ∧ (∀ y0 y1 y2 y3 y4 y5 y6 y7 y8 y9, LeO (section_Check.l0 k y0 y1 y2 y3 y4 y5 y6 y7 y8 y9) (section_Check.l0 (k + 1) y0 y1 y2 y3 y4 y5 y6 y7 y8 y9)) ∧ (∀ y0 y1 y2 y3 y4 y5 y6 y7 y8 y9, LeO (section_Check.l1 k y0 y1 y2 y3 y4 y5 y6 y7 y8 y9) (section_Check.l1 (k + 1) y0 y1 y2 y3 y4 y5 y6 y7 y8 y9)) ∧ (∀ y0 y1 y2 y3 y4 y5 y6, LeO (section_Check.j3 k y0 y1 y2 y3 y4 y5 y6) (section_Check.j3 (k + 1) y0 y1 y2 y3 y4 y5 y6))
 | 0 => ⟨fun _ _ _ _ _ _ _ r h => by simp [section_Check.j0] at h, fun _ _ _ _ _ _ _ _ _ _ r h => by simp [section_Check.l0] at h, fun _ _ _ _ _ _ _ _ _ _ r h => by simp [section_Check.l1] at h, fun _ _ _ _ _ _ _ r h => by simp [section_Check.j3] at h⟩
 | k + 1 => by
  obtain ⟨ih0, ih1, ih2, ih3⟩ := section_Check.mono_l k
  refine ⟨?_, ?_, ?_, ?_⟩
  ·intro y0 y1 y2 y3 y4 y5 y6
   unfold section_Check.j0
   repeat' first
   | (with_reducible exact ih0 _ _ _ _ _ _ _)
   | (with_reducible exact ih1 _ _ _ _ _ _ _ _ _ _)
   | (with_reducible exact ih2 _ _ _ _ _ _ _ _ _ _)
   | (with_reducible exact ih3 _ _ _ _ _ _ _)
   | (with_reducible exact section_printed.mono _ _)
   | (with_reducible exact LeO.refl _)
   | (with_reducible exact LeO.none _)
   | (with_reducible refine LeO.ite ?_ ?_)
   | (with_reducible refine LeO.bind ?_ (fun _ => ?_))
   | exact ih0 _ _ _ _ _ _ _
   | exact ih1 _ _ _ _ _ _ _ _ _ _
   | exact ih2 _ _ _ _ _ _ _ _ _ _
   | exact ih3 _ _ _ _ _ _ _
   | exact section_printed.mono _ _
   | exact LeO.none _
   | refine LeO.ite ?_ ?_
   | refine LeO.bind ?_ (fun _ => ?_)
  ·intro y0 y1 y2 y3 y4 y5 y6 y7 y8 y9
   unfold section_Check.l0
   repeat' first
   | (with_reducible exact ih0 _ _ _ _ _ _ _)
   | (with_reducible exact ih1 _ _ _ _ _ _ _ _ _ _)
   | (with_reducible exact ih2 _ _ _ _ _ _ _ _ _ _)
   | (with_reducible exact ih3 _ _ _ _ _ _ _)
   | (with_reducible exact section_printed.mono _ _)
   | (with_reducible exact LeO.refl _)
   | (with_reducible exact LeO.none _)
   | (with_reducible refine LeO.ite ?_ ?_)
   | (with_reducible refine LeO.bind ?_ (fun _ => ?_))
   | exact ih0 _ _ _ _ _ _ _
   | exact ih1 _ _ _ _ _ _ _ _ _ _
   | exact ih2 _ _ _ _ _ _ _ _ _ _
   | exact ih3 _ _ _ _ _ _ _
   | exact section_printed.mono _ _
   | exact LeO.none _
   | refine LeO.ite ?_ ?_
   | refine LeO.bind ?_ (fun _ => ?_)
  ·intro y0 y1 y2 y3 y4 y5 y6 y7 y8 y9
   unfold section_Check.l1
   repeat' first
   | (with_reducible exact ih0 _ _ _ _ _ _ _)
   | (with_reducible exact ih1 _ _ _ _ _ _ _ _ _ _)
   | (with_reducible exact ih2 _ _ _ _ _ _ _ _ _ _)
   | (with_reducible exact ih3 _ _ _ _ _ _ _)
   | (with_reducible exact section_printed.mono _ _)
   | (with_reducible exact LeO.refl _)
   | (with_reducible exact LeO.none _)
   | (with_reducible refine LeO.ite ?_ ?_)
   | (with_reducible refine LeO.bind ?_ (fun _ => ?_))
   | exact ih0 _ _ _ _ _ _ _
   | exact ih1 _ _ _ _ _ _ _ _ _ _
   | exact ih2 _ _ _ _ _ _ _ _ _ _
   | exact ih3 _ _ _ _ _ _ _
   | exact section_printed.mono _ _
   | exact LeO.none _
   | refine LeO.ite ?_ ?_
   | refine LeO.bind ?_ (fun _ => ?_)
  ·intro y0 y1 y2 y3 y4 y5 y6
   unfold section_Check.j3
   repeat' first
   | (with_reducible exact ih0 _ _ _ _ _ _ _)
   | (with_reducible exact ih1 _ _ _ _ _ _ _ _ _ _)
   | (with_reducible exact ih2 _ _ _ _ _ _ _ _ _ _)
   | (with_reducible exact ih3 _ _ _ _ _ _ _)
   | (with_reducible exact section_printed.mono _ _)
   | (with_reducible exact LeO.refl _)
   | (with_reducible exact LeO.none _)
   | (with_reducible refine LeO.ite ?_ ?_)
   | (with_reducible refine LeO.bind ?_ (fun _ => ?_))
   | exact ih0 _ _ _ _ _ _ _
   | exact ih1 _ _ _ _ _ _ _ _ _ _
   | exact ih2 _ _ _ _ _ _ _ _ _ _
   | exact ih3 _ _ _ _ _ _ _
   | exact section_printed.mono _ _
   | exact LeO.none _
   | refine LeO.ite ?_ ?_
   | refine LeO.bind ?_ (fun _ => ?_)
theorem section_Check.mono : ∀ a0 a1 a2 a3 a4 a5 k, LeO (section_Check.f k a0 a1 a2 a3 a4 a5) (section_Check.f (k + 1) a0 a1 a2 a3 a4 a5) := by
 intro a0 a1 a2 a3 a4 a5 k
 obtain ⟨ih0, ih1, ih2, ih3⟩ := section_Check.mono_l k
 unfold section_Check.f
 repeat' first
   | (with_reducible exact ih0 _ _ _ _ _ _ _)
   | (with_reducible exact ih1 _ _ _ _ _ _ _ _ _ _)
   | (with_reducible exact ih2 _ _ _ _ _ _ _ _ _ _)
   | (with_reducible exact ih3 _ _ _ _ _ _ _)
   | (with_reducible exact section_printed.mono _ _)
   | (with_reducible exact LeO.refl _)
   | (with_reducible exact LeO.none _)
   | (with_reducible refine LeO.ite ?_ ?_)
   | (with_reducible refine LeO.bind ?_ (fun _ => ?_))
   | exact ih0 _ _ _ _ _ _ _
   | exact ih1 _ _ _ _ _ _ _ _ _ _
   | exact ih2 _ _ _ _ _ _ _ _ _ _
   | exact ih3 _ _ _ _ _ _ _
   | exact section_printed.mono _ _
   | exact LeO.none _
   | refine LeO.ite ?_ ?_
   | refine LeO.bind ?_ (fun _ => ?_)
set_option maxHeartbeats 8000000 in
set_option maxRecDepth 100000 in
theorem section_Check.calls (k : Nat) (A0_0 : Option Addr) (c0_0 : Nat) (l0_0 : List Int) (a0_1 : Int) (A0_2 : Option Addr) (c0_2 : Nat) (l0_2 : List ByteArray) (a0_3 : Bool) (a0_4 : Int) (a0_5 : Int) (r : Int) (w : World) (hr0_0 : Kd.C (Kd.int .i64) w A0_0 l0_0.length l0_0) (hc0_0 : l0_0.length ≤ c0_0) (hr0_2 : Kd.C Kd.string w A0_2 l0_2.length l0_2) (hc0_2 : l0_2.length ≤ c0_2) (h : section_Check.f k l0_0 a0_1 l0_2 a0_3 a0_4 a0_5 = some r) :
  Calls Tryd.prog 12 #[.agg #[.slice A0_0 l0_0.length c0_0, .int .i64 a0_1, .slice A0_2 l0_2.length c0_2, .bool a0_3, .int .i64 a0_4, .int .i64 a0_5]] w fun e w' => e = .returned (.int .i64 r) ∧ Below w.heap.size w w' := by
 have hu26 := Tryd.underlying26
 have HR0_0 := Aside0.mk hr0_0
 have HC0_0 := Aside0.mk hc0_0
 clear hr0_0 hc0_0
 have HR0_2 := Aside0.mk hr0_2
 have HC0_2 := Aside0.mk hc0_2
 clear hr0_2 hc0_2
 have HB := Aside0.mk (Below.refl w.heap.size w)
 have H : (if (l0_0.length : Int) ≤ 64 then (if a0_1 ≥ 0 then (if a0_1 ≤ 5 then (if a0_1 = 5 then (section_Check.j0 k (decide ((l0_0.length : Int) > 0)) l0_0 a0_1 l0_2 a0_3 a0_4 a0_5) else (section_Check.j0 k true l0_0 a0_1 l0_2 a0_3 a0_4 a0_5)) else (section_Check.j0 k false l0_0 a0_1 l0_2 a0_3 a0_4 a0_5)) else (section_Check.j0 k false l0_0 a0_1 l0_2 a0_3 a0_4 a0_5)) else (section_Check.j0 k false l0_0 a0_1 l0_2 a0_3 a0_4 a0_5)) = some r := h
 clear h
 have HC2 := Aside0.mk H
 clear H
 go_enter Tryd.func12, Tryd.ntmps12
 go_upto_region 1 with (first | ((with_reducible refine gate_dst (N := 1) rfl ?_); (try (refine gate_guard (by rfl) ?_; dsimp only)); refine box_event ?hg (N := 1) ?hd (cs := #[.slice A0_0 l0_0.length c0_0, .int .i64 a0_1, .slice A0_2 l0_2.length c0_2, .bool a0_3, .int .i64 a0_4, .int .i64 a0_5]) (t := 26) ?hr ?_; (case hd => rfl); (case hg => rfl); (case hr => first | (go_simp; done) | (go_simp; rfl)); intro gb102 hg w3 hbox hb; have n0_ := Aside0.mk (below_step (qb_ HB.out) hb); have n1_ := Aside0.mk (hbox); have n2_ := Aside0.mk ((by rw [hg]; exact (below_size (qb_ HB.out)) : w.heap.size ≤ gb102)); have n3_ := Aside0.mk ((by rw [hg]; exact (below_size (qb_ HB.out)) : w.heap.size ≤ gb102)); clear HB; have HB := n0_; have BK102 := n1_; have GW102 := n2_; have GE102 := n3_; clear n0_ n1_ n2_ n3_; clear hb hbox hg))
 (try simp only [Act.put, List.setIfInBounds_toArray, List.set_cons_zero, List.set_cons_succ])
 go_cut [3] (fun v3 wc => ∃ (kq : Nat) (x3_1 : Bool), v3 = .bool x3_1 ∧ Aside0 (section_Check.j0 kq x3_1 l0_0 a0_1 l0_2 a0_3 a0_4 a0_5 = some r) ∧ Aside0 (kq ≤ k) ∧ Aside0 (wc.heap[gb102]? = some (.cells #[(.slice A0_0 l0_0.length c0_0), .int .i64 a0_1, (.slice A0_2 l0_2.length c0_2), .bool a0_3, .int .i64 a0_4, .int .i64 a0_5] 26 (0, 0))) ∧ Aside0 (Below w.heap.size w wc))
 case first =>
  have H := HC2.out
  clear HC2
  by_cases c4 : (l0_0.length : Int) ≤ 64
  ·rw [if_pos c4] at H
   have c4b0 : decide ((l0_0.length : Int) ≤ 64) = true := decide_eq_true c4
   have c4b1 : decide (l0_0.length ≤ 64) = true := decide_eq_true (by omega)
   clear c4
   (first | rw [c4b0] | (simp only [i64_w, i32_w]; rw [c4b0]) | skip)
   by_cases c5 : a0_1 ≥ 0
   ·rw [if_pos c5] at H
    have c5b0 : decide (0 ≤ a0_1) = true := decide_eq_true c5
    clear c5
    by_cases c6 : a0_1 ≤ 5
    ·rw [if_pos c6] at H
     have c6b0 : decide (a0_1 ≤ 5) = true := decide_eq_true c6
     clear c6
     by_cases c7 : a0_1 = 5
     ·rw [if_pos c7] at H
      have c7b0 : (a0_1 == 5) = true := beq_iff_eq.mpr c7
      have c7b1 : (a0_1 != 5) = false := bne_eq_false_iff_eq.mpr c7
      clear c7
      have H' := Aside0.mk H
      clear H
      obtain ⟨hcz8_0, hcz8_1, hcz8_2, hcz8_3, hcz8_4, hcz8_5, hfz8_0, hfz8_1, hfz8_2, hfz8_3, hfz8_4, hfz8_5⟩ := cz6_ BK102.out
      go_wp2
      go_meet
      case rel => exact ⟨_, (decide ((l0_0.length : Int) > 0)), qr_, H', ⟨by first | omega | exact Nat.le_refl _⟩, ⟨qk_ BK102.out⟩, ⟨qb_ HB.out⟩⟩
     ·rw [if_neg c7] at H
      have c7b0 : (a0_1 == 5) = false := beq_eq_false_iff_ne.mpr c7
      have c7b1 : (a0_1 != 5) = true := bne_iff_ne.mpr c7
      have H' := Aside0.mk H
      clear H
      obtain ⟨hcz9_0, hcz9_1, hcz9_2, hcz9_3, hcz9_4, hcz9_5, hfz9_0, hfz9_1, hfz9_2, hfz9_3, hfz9_4, hfz9_5⟩ := cz6_ BK102.out
      go_wp2
      go_meet
      case rel => exact ⟨_, (true), qr_, H', ⟨by first | omega | exact Nat.le_refl _⟩, ⟨qk_ BK102.out⟩, ⟨qb_ HB.out⟩⟩
    ·rw [if_neg c6] at H
     have c6b0 : decide (a0_1 ≤ 5) = false := decide_eq_false c6
     clear c6
     have H' := Aside0.mk H
     clear H
     obtain ⟨hcz10_0, hcz10_1, hcz10_2, hcz10_3, hcz10_4, hcz10_5, hfz10_0, hfz10_1, hfz10_2, hfz10_3, hfz10_4, hfz10_5⟩ := cz6_ BK102.out
     go_wp2
     go_meet
     case rel => exact ⟨_, (false), qr_, H', ⟨by first | omega | exact Nat.le_refl _⟩, ⟨qk_ BK102.out⟩, ⟨qb_ HB.out⟩⟩
   ·rw [if_neg c5] at H
    have c5b0 : decide (0 ≤ a0_1) = false := decide_eq_false c5
    clear c5
    have H' := Aside0.mk H
    clear H
    obtain ⟨hcz11_0, hcz11_1, hcz11_2, hcz11_3, hcz11_4, hcz11_5, hfz11_0, hfz11_1, hfz11_2, hfz11_3, hfz11_4, hfz11_5⟩ := cz6_ BK102.out
    go_wp2
    go_meet
    case rel => exact ⟨_, (false), qr_, H', ⟨by first | omega | exact Nat.le_refl _⟩, ⟨qk_ BK102.out⟩, ⟨qb_ HB.out⟩⟩
  ·rw [if_neg c4] at H
   have c4b0 : decide ((l0_0.length : Int) ≤ 64) = false := decide_eq_false c4
   have c4b1 : decide (l0_0.length ≤ 64) = false := decide_eq_false (by omega)
   clear c4
   (first | rw [c4b0] | (simp only [i64_w, i32_w]; rw [c4b0]) | skip)
   have H' := Aside0.mk H
   clear H
   obtain ⟨hcz12_0, hcz12_1, hcz12_2, hcz12_3, hcz12_4, hcz12_5, hfz12_0, hfz12_1, hfz12_2, hfz12_3, hfz12_4, hfz12_5⟩ := cz6_ BK102.out
   go_wp2
   go_meet
   case rel => exact ⟨_, (false), qr_, H', ⟨by first | omega | exact Nat.le_refl _⟩, ⟨qk_ BK102.out⟩, ⟨qb_ HB.out⟩⟩
 case rest =>
  clear HC2
  obtain ⟨kq, x3_1, rfl, HA, HJ1, BK102, HB⟩ := hcut
  cases kq with
  | zero => exact absurd HA.out (by simp [section_Check.j0])
  | succ kj1 =>
   have H := HA.out
   clear HA
   simp only [section_Check.j0] at H
   have H' := Aside0.mk H
   clear H
   obtain ⟨hcz13_0, hcz13_1, hcz13_2, hcz13_3, hcz13_4, hcz13_5, hfz13_0, hfz13_1, hfz13_2, hfz13_3, hfz13_4, hfz13_5⟩ := cz6_ BK102.out
   go_wp2
   go_loopg [3, 36] kj1 (fun kq v3 v36 w' => ∃ (x3_2 : Bool) (x36_2 : Int), v3 = .bool x3_2 ∧ v36 = .int .i64 x36_2 ∧ Aside0 (section_Check.l0 kq x3_2 l0_0 (l0_0.length : Int) x36_2 l0_0 a0_1 l0_2 a0_3 a0_4 a0_5 = some r) ∧ Aside0 (kq ≤ kj1) ∧ Aside0 (w'.heap[gb102]? = some (.cells #[(.slice A0_0 l0_0.length c0_0), .int .i64 a0_1, (.slice A0_2 l0_2.length c0_2), .bool a0_3, .int .i64 a0_4, .int .i64 a0_5] 26 (0, 0))) ∧ Aside0 (Below w.heap.size w w'))
   case atStart => exact ⟨(x3_1), (0), qr_, qr_, H', ⟨Nat.le_refl _⟩, ⟨qk_ BK102.out⟩, ⟨qb_ HB.out⟩⟩
   case round =>
    clear H'
    obtain ⟨x3_2, x36_2, rfl, rfl, HA, HK2, BK102, HB⟩ := hrel
    cases gk with
    | zero => exact absurd HA.out (by simp [section_Check.l0])
    | succ k2 =>
     have H := HA.out
     clear HA
     simp only [section_Check.l0] at H
     by_cases c14 : x36_2 < (l0_0.length : Int)
     ·rw [if_pos c14] at H
      have c14b0 : decide (x36_2 < (l0_0.length : Int)) = true := decide_eq_true c14
      clear c14
      by_cases c15 : 0 ≤ x36_2
      ·rw [if_pos c15] at H
       have c15b0 : decide (0 ≤ x36_2) = true := decide_eq_true c15
       clear c15
       by_cases c16 : x36_2 < (l0_0.length : Int)
       ·rw [if_pos c16] at H
        have c16b0 : decide (x36_2 < (l0_0.length : Int)) = true := decide_eq_true c16
        clear c16
        by_cases c17 : x3_2 = true
        ·subst c17
         have H1 : ((section_within.f (rd l0_0 x36_2) 1).bind fun t104 => (section_Check.l0 k2 t104 l0_0 (l0_0.length : Int) (wrap64 (x36_2 + 1)) l0_0 a0_1 l0_2 a0_3 a0_4 a0_5)) = some r := by rw [if_pos rfl] at H; exact H
         clear H
         have H := H1
         clear H1
         replace H := Option.bind_eq_some_iff.mp H
         obtain ⟨t104, A180, H⟩ := H
         replace H : (section_Check.l0 k2 t104 l0_0 (l0_0.length : Int) (wrap64 (x36_2 + 1)) l0_0 a0_1 l0_2 a0_3 a0_4 a0_5) = some r := H
         have A18 := Aside0.mk A180
         clear A180
         have H' := Aside0.mk H
         clear H
         have p103 : 0 ≤ (x36_2 : Int) := qd_
         have q103 : x36_2 < (l0_0.length : Int) := qd_
         obtain ⟨ad103, e103, hx103_0⟩ := Kd.at_int HR0_0.out x36_2 p103 q103
         cases e103
         replace hx103_0 := (HB.out.cell (World.block_lt_of_cell? w _ hx103_0)).trans hx103_0
         replace p103 := eq_true p103
         replace q103 := eq_true q103
         go_wp2_with (first | (go_at_call 28; (with_reducible refine (section_within.calls (rd l0_0 x36_2) 1 t104 _ A18.out).mono ?_); rintro e w' ⟨rfl, ⟨nd, rfl⟩⟩))
         go_roundg k2
         case measure => have := HJ1.out; have := HK2.out; omega
         case rel => exact ⟨(t104), (wrap64 (x36_2 + 1)), qr_, qr_, H', ⟨by have := HJ1.out; have := HK2.out; omega⟩, ⟨qk_ BK102.out⟩, ⟨qb_ HB.out⟩⟩
        ·replace c17 := Bool.eq_false_iff.mpr c17
         subst c17
         have H1 : (section_Check.l0 k2 false l0_0 (l0_0.length : Int) (wrap64 (x36_2 + 1)) l0_0 a0_1 l0_2 a0_3 a0_4 a0_5) = some r := by rw [if_neg (show ¬ (false = true) by decide)] at H; exact H
         clear H
         have H := H1
         clear H1
         have H' := Aside0.mk H
         clear H
         have p103 : 0 ≤ (x36_2 : Int) := qd_
         have q103 : x36_2 < (l0_0.length : Int) := qd_
         obtain ⟨ad103, e103, hx103_0⟩ := Kd.at_int HR0_0.out x36_2 p103 q103
         cases e103
         replace hx103_0 := (HB.out.cell (World.block_lt_of_cell? w _ hx103_0)).trans hx103_0
         replace p103 := eq_true p103
         replace q103 := eq_true q103
         go_wp2
         go_roundg k2
         case measure => have := HJ1.out; have := HK2.out; omega
         case rel => exact ⟨(false), (wrap64 (x36_2 + 1)), qr_, qr_, H', ⟨by have := HJ1.out; have := HK2.out; omega⟩, ⟨qk_ BK102.out⟩, ⟨qb_ HB.out⟩⟩
       ·rw [if_neg c16] at H
        exact absurd H (by simp)
      ·rw [if_neg c15] at H
       exact absurd H (by simp)
     ·rw [if_neg c14] at H
      have c14b0 : decide (x36_2 < (l0_0.length : Int)) = false := decide_eq_false c14
      clear c14
      have H' := Aside0.mk H
      clear H
      obtain ⟨hcz19_0, hcz19_1, hcz19_2, hcz19_3, hcz19_4, hcz19_5, hfz19_0, hfz19_1, hfz19_2, hfz19_3, hfz19_4, hfz19_5⟩ := cz6_ BK102.out
      go_wp2
      go_loopg [3, 49] k2 (fun kq v3 v49 w' => ∃ (x3_3 : Bool) (x49_3 : Int), v3 = .bool x3_3 ∧ v49 = .int .i64 x49_3 ∧ Aside0 (section_Check.l1 kq x3_3 l0_2 (l0_2.length : Int) x49_3 l0_0 a0_1 l0_2 a0_3 a0_4 a0_5 = some r) ∧ Aside0 (kq ≤ k2) ∧ Aside0 (w'.heap[gb102]? = some (.cells #[(.slice A0_0 l0_0.length c0_0), .int .i64 a0_1, (.slice A0_2 l0_2.length c0_2), .bool a0_3, .int .i64 a0_4, .int .i64 a0_5] 26 (0, 0))) ∧ Aside0 (Below w.heap.size w w'))
      case atStart => exact ⟨(x3_2), (0), qr_, qr_, H', ⟨Nat.le_refl _⟩, ⟨qk_ BK102.out⟩, ⟨qb_ HB.out⟩⟩
      case round =>
       clear H'
       obtain ⟨x3_3, x49_3, rfl, rfl, HA, HK3, BK102, HB⟩ := hrel
       cases gk with
       | zero => exact absurd HA.out (by simp [section_Check.l1])
       | succ k3 =>
        have H := HA.out
        clear HA
        simp only [section_Check.l1] at H
        by_cases c20 : x49_3 < (l0_2.length : Int)
        ·rw [if_pos c20] at H
         have c20b0 : decide (x49_3 < (l0_2.length : Int)) = true := decide_eq_true c20
         clear c20
         by_cases c21 : 0 ≤ x49_3
         ·rw [if_pos c21] at H
          have c21b0 : decide (0 ≤ x49_3) = true := decide_eq_true c21
          clear c21
          by_cases c22 : x49_3 < (l0_2.length : Int)
          ·rw [if_pos c22] at H
           have c22b0 : decide (x49_3 < (l0_2.length : Int)) = true := decide_eq_true c22
           clear c22
           by_cases c23 : x3_3 = true
           ·subst c23
            have H1 : ((section_printed.f k3 (rdOf ByteArray.empty l0_2 x49_3)).bind fun t106 => (section_Check.l1 k3 t106 l0_2 (l0_2.length : Int) (wrap64 (x49_3 + 1)) l0_0 a0_1 l0_2 a0_3 a0_4 a0_5)) = some r := by rw [if_pos rfl] at H; exact H
            clear H
            have H := H1
            clear H1
            replace H := Option.bind_eq_some_iff.mp H
            obtain ⟨t106, A240, H⟩ := H
            replace H : (section_Check.l1 k3 t106 l0_2 (l0_2.length : Int) (wrap64 (x49_3 + 1)) l0_0 a0_1 l0_2 a0_3 a0_4 a0_5) = some r := H
            have A24 := Aside0.mk A240
            clear A240
            have H' := Aside0.mk H
            clear H
            have p105 : 0 ≤ (x49_3 : Int) := qd_
            have q105 : x49_3 < (l0_2.length : Int) := qd_
            obtain ⟨ad105, e105, hx105_0⟩ := Kd.at_string HR0_2.out x49_3 p105 q105
            cases e105
            replace hx105_0 := (HB.out.cell (World.block_lt_of_cell? w _ hx105_0)).trans hx105_0
            replace p105 := eq_true p105
            replace q105 := eq_true q105
            go_wp2_with (first | (go_at_call 29; (with_reducible refine (section_printed.calls k3 (rdOf ByteArray.empty l0_2 x49_3) t106 _ A24.out).mono ?_); rintro e w' ⟨rfl, ⟨nd, rfl⟩⟩))
            go_roundg k3
            case measure => have := HJ1.out; have := HK2.out; have := HK3.out; omega
            case rel => exact ⟨(t106), (wrap64 (x49_3 + 1)), qr_, qr_, H', ⟨by have := HJ1.out; have := HK2.out; have := HK3.out; omega⟩, ⟨qk_ BK102.out⟩, ⟨qb_ HB.out⟩⟩
           ·replace c23 := Bool.eq_false_iff.mpr c23
            subst c23
            have H1 : (section_Check.l1 k3 false l0_2 (l0_2.length : Int) (wrap64 (x49_3 + 1)) l0_0 a0_1 l0_2 a0_3 a0_4 a0_5) = some r := by rw [if_neg (show ¬ (false = true) by decide)] at H; exact H
            clear H
            have H := H1
            clear H1
            have H' := Aside0.mk H
            clear H
            have p105 : 0 ≤ (x49_3 : Int) := qd_
            have q105 : x49_3 < (l0_2.length : Int) := qd_
            obtain ⟨ad105, e105, hx105_0⟩ := Kd.at_string HR0_2.out x49_3 p105 q105
            cases e105
            replace hx105_0 := (HB.out.cell (World.block_lt_of_cell? w _ hx105_0)).trans hx105_0
            replace p105 := eq_true p105
            replace q105 := eq_true q105
            go_wp2
            go_roundg k3
            case measure => have := HJ1.out; have := HK2.out; have := HK3.out; omega
            case rel => exact ⟨(false), (wrap64 (x49_3 + 1)), qr_, qr_, H', ⟨by have := HJ1.out; have := HK2.out; have := HK3.out; omega⟩, ⟨qk_ BK102.out⟩, ⟨qb_ HB.out⟩⟩
          ·rw [if_neg c22] at H
           exact absurd H (by simp)
         ·rw [if_neg c21] at H
          exact absurd H (by simp)
        ·rw [if_neg c20] at H
         have c20b0 : decide (x49_3 < (l0_2.length : Int)) = false := decide_eq_false c20
         clear c20
         replace H := Option.bind_eq_some_iff.mp H
         obtain ⟨t107, A250, H⟩ := H
         replace H : (if t107 = true then (if x3_3 = true then (if (l0_2.length : Int) ≥ 1 then (section_Check.j3 k3 (decide ((l0_2.length : Int) ≤ 100)) l0_0 a0_1 l0_2 a0_3 a0_4 a0_5) else (section_Check.j3 k3 false l0_0 a0_1 l0_2 a0_3 a0_4 a0_5)) else (section_Check.j3 k3 false l0_0 a0_1 l0_2 a0_3 a0_4 a0_5)) else (if x3_3 = true then (section_Check.j3 k3 ((l0_2.length : Int) == 0) l0_0 a0_1 l0_2 a0_3 a0_4 a0_5) else (section_Check.j3 k3 false l0_0 a0_1 l0_2 a0_3 a0_4 a0_5))) = some r := H
         have A25 := Aside0.mk A250
         clear A250
         have HC26 := Aside0.mk H
         clear H
         obtain ⟨hcz27_0, hcz27_1, hcz27_2, hcz27_3, hcz27_4, hcz27_5, hfz27_0, hfz27_1, hfz27_2, hfz27_3, hfz27_4, hfz27_5⟩ := cz6_ BK102.out
         go_upto_if 60 with (first | ((with_reducible refine gate_callee (f := 19) rfl ?_); refine goesL_ (some 60) rfl rfl Tryd.func19 (by kernel_rfl) rfl #[.agg #[.slice A0_0 l0_0.length c0_0, .int .i64 a0_1, .slice A0_2 l0_2.length c0_2, .bool a0_3, .int .i64 a0_4, .int .i64 a0_5]] rfl qa_ ?_; (with_reducible refine (section_Spec_listed.calls _ _ l0_0 a0_1 _ _ l0_2 a0_3 a0_4 a0_5 t107 _ ?side1 ?side2 ?side3 ?side4 A25.out).mono ?_); (case side1 => repeat (first | exact (Kd.C_below HR0_0.out HB.out) | (with_reducible refine Kd.C_alloc ?_ _) | (with_reducible refine Kd.C_drewN ?_ _) | (with_reducible refine Kd.C_drew ?_))); (case side2 => exact HC0_0.out); (case side3 => repeat (first | exact (Kd.C_below HR0_2.out HB.out) | (with_reducible refine Kd.C_alloc ?_ _) | (with_reducible refine Kd.C_drewN ?_ _) | (with_reducible refine Kd.C_drew ?_))); (case side4 => exact HC0_2.out); rintro e w28 ⟨rfl, hb⟩; refine ⟨_, rfl, ?_⟩; have n0_ := Aside0.mk (blk_below (g := gb102) (o := .cells #[.slice A0_0 l0_0.length c0_0, .int .i64 a0_1, .slice A0_2 l0_2.length c0_2, .bool a0_3, .int .i64 a0_4, .int .i64 a0_5] 26 (0, 0)) (qk_ BK102.out) hb); have n1_ := Aside0.mk (below_step (qb_ HB.out) hb); clear BK102; clear HB; have BK102 := n0_; have HB := n1_; clear n0_ n1_; (try clear hb); (try clear hb2); (try clear hk); (try clear hi)))
         (try simp only [Act.put, List.setIfInBounds_toArray, List.set_cons_zero, List.set_cons_succ])
         go_cut [3] (fun v3 wc => ∃ (kq : Nat) (x3_25 : Bool), v3 = .bool x3_25 ∧ Aside0 (section_Check.j3 kq x3_25 l0_0 a0_1 l0_2 a0_3 a0_4 a0_5 = some r) ∧ Aside0 (kq ≤ k3) ∧ Aside0 (wc.heap[gb102]? = some (.cells #[(.slice A0_0 l0_0.length c0_0), .int .i64 a0_1, (.slice A0_2 l0_2.length c0_2), .bool a0_3, .int .i64 a0_4, .int .i64 a0_5] 26 (0, 0))) ∧ Aside0 (Below w.heap.size w wc))
         case first =>
          have H := HC26.out
          clear HC26
          by_cases c29 : t107 = true
          ·subst c29
           have H1 : (if x3_3 = true then (if (l0_2.length : Int) ≥ 1 then (section_Check.j3 k3 (decide ((l0_2.length : Int) ≤ 100)) l0_0 a0_1 l0_2 a0_3 a0_4 a0_5) else (section_Check.j3 k3 false l0_0 a0_1 l0_2 a0_3 a0_4 a0_5)) else (section_Check.j3 k3 false l0_0 a0_1 l0_2 a0_3 a0_4 a0_5)) = some r := by rw [if_pos rfl] at H; exact H
           clear H
           have H := H1
           clear H1
           by_cases c30 : x3_3 = true
           ·subst c30
            have H1 : (if (l0_2.length : Int) ≥ 1 then (section_Check.j3 k3 (decide ((l0_2.length : Int) ≤ 100)) l0_0 a0_1 l0_2 a0_3 a0_4 a0_5) else (section_Check.j3 k3 false l0_0 a0_1 l0_2 a0_3 a0_4 a0_5)) = some r := by rw [if_pos rfl] at H; exact H
            clear H
            have H := H1
            clear H1
            by_cases c31 : (l0_2.length : Int) ≥ 1
            ·rw [if_pos c31] at H
             have c31b0 : decide (1 ≤ (l0_2.length : Int)) = true := decide_eq_true c31
             have c31b1 : decide (1 ≤ l0_2.length) = true := decide_eq_true (by omega)
             clear c31
             (first | rw [c31b0] | (simp only [i64_w, i32_w]; rw [c31b0]) | skip)
             have H' := Aside0.mk H
             clear H
             obtain ⟨hcz32_0, hcz32_1, hcz32_2, hcz32_3, hcz32_4, hcz32_5, hfz32_0, hfz32_1, hfz32_2, hfz32_3, hfz32_4, hfz32_5⟩ := cz6_ BK102.out
             go_wp2
             go_meet
             case rel => exact ⟨_, (decide ((l0_2.length : Int) ≤ 100)), qr_, H', ⟨by have := HJ1.out; have := HK2.out; have := HK3.out; first | omega | exact Nat.le_refl _⟩, ⟨qk_ BK102.out⟩, ⟨qb_ HB.out⟩⟩
            ·rw [if_neg c31] at H
             have c31b0 : decide (1 ≤ (l0_2.length : Int)) = false := decide_eq_false c31
             have c31b1 : decide (1 ≤ l0_2.length) = false := decide_eq_false (by omega)
             clear c31
             (first | rw [c31b0] | (simp only [i64_w, i32_w]; rw [c31b0]) | skip)
             have H' := Aside0.mk H
             clear H
             obtain ⟨hcz33_0, hcz33_1, hcz33_2, hcz33_3, hcz33_4, hcz33_5, hfz33_0, hfz33_1, hfz33_2, hfz33_3, hfz33_4, hfz33_5⟩ := cz6_ BK102.out
             go_wp2
             go_meet
             case rel => exact ⟨_, (false), qr_, H', ⟨by have := HJ1.out; have := HK2.out; have := HK3.out; first | omega | exact Nat.le_refl _⟩, ⟨qk_ BK102.out⟩, ⟨qb_ HB.out⟩⟩
           ·replace c30 := Bool.eq_false_iff.mpr c30
            subst c30
            have H1 : (section_Check.j3 k3 false l0_0 a0_1 l0_2 a0_3 a0_4 a0_5) = some r := by rw [if_neg (show ¬ (false = true) by decide)] at H; exact H
            clear H
            have H := H1
            clear H1
            have H' := Aside0.mk H
            clear H
            go_wp2
            go_meet
            case rel => exact ⟨_, (false), qr_, H', ⟨by have := HJ1.out; have := HK2.out; have := HK3.out; first | omega | exact Nat.le_refl _⟩, ⟨qk_ BK102.out⟩, ⟨qb_ HB.out⟩⟩
          ·replace c29 := Bool.eq_false_iff.mpr c29
           subst c29
           have H1 : (if x3_3 = true then (section_Check.j3 k3 ((l0_2.length : Int) == 0) l0_0 a0_1 l0_2 a0_3 a0_4 a0_5) else (section_Check.j3 k3 false l0_0 a0_1 l0_2 a0_3 a0_4 a0_5)) = some r := by rw [if_neg (show ¬ (false = true) by decide)] at H; exact H
           clear H
           have H := H1
           clear H1
           by_cases c34 : x3_3 = true
           ·subst c34
            have H1 : (section_Check.j3 k3 ((l0_2.length : Int) == 0) l0_0 a0_1 l0_2 a0_3 a0_4 a0_5) = some r := by rw [if_pos rfl] at H; exact H
            clear H
            have H := H1
            clear H1
            have H' := Aside0.mk H
            clear H
            obtain ⟨hcz35_0, hcz35_1, hcz35_2, hcz35_3, hcz35_4, hcz35_5, hfz35_0, hfz35_1, hfz35_2, hfz35_3, hfz35_4, hfz35_5⟩ := cz6_ BK102.out
            go_wp2
            go_meet
            case rel => exact ⟨_, (((l0_2.length : Int) == 0)), qr_, H', ⟨by have := HJ1.out; have := HK2.out; have := HK3.out; first | omega | exact Nat.le_refl _⟩, ⟨qk_ BK102.out⟩, ⟨qb_ HB.out⟩⟩
           ·replace c34 := Bool.eq_false_iff.mpr c34
            subst c34
            have H1 : (section_Check.j3 k3 false l0_0 a0_1 l0_2 a0_3 a0_4 a0_5) = some r := by rw [if_neg (show ¬ (false = true) by decide)] at H; exact H
            clear H
            have H := H1
            clear H1
            have H' := Aside0.mk H
            clear H
            go_wp2
            go_meet
            case rel => exact ⟨_, (false), qr_, H', ⟨by have := HJ1.out; have := HK2.out; have := HK3.out; first | omega | exact Nat.le_refl _⟩, ⟨qk_ BK102.out⟩, ⟨qb_ HB.out⟩⟩
         case rest =>
          clear HC26
          obtain ⟨kq, x3_25, rfl, HA, HJ25, BK102, HB⟩ := hcut
          cases kq with
          | zero => exact absurd HA.out (by simp [section_Check.j3])
          | succ kj25 =>
           have H := HA.out
           clear HA
           simp only [section_Check.j3] at H
           by_cases c36 : a0_3 = true
           ·subst c36
            have H1 : (if x3_25 = true then ((section_within.f a0_4 0).bind fun t108 => (if t108 = true then ((section_within.f a0_5 1).bind fun t109 => (if t109 = true then (some 0) else (some 1))) else (some 1))) else (some 1)) = some r := by rw [if_pos rfl] at H; exact H
            clear H
            have H := H1
            clear H1
            by_cases c37 : x3_25 = true
            ·subst c37
             have H1 : ((section_within.f a0_4 0).bind fun t108 => (if t108 = true then ((section_within.f a0_5 1).bind fun t109 => (if t109 = true then (some 0) else (some 1))) else (some 1))) = some r := by rw [if_pos rfl] at H; exact H
             clear H
             have H := H1
             clear H1
             replace H := Option.bind_eq_some_iff.mp H
             obtain ⟨t108, A380, H⟩ := H
             replace H : (if t108 = true then ((section_within.f a0_5 1).bind fun t109 => (if t109 = true then (some 0) else (some 1))) else (some 1)) = some r := H
             have A38 := Aside0.mk A380
             clear A380
             by_cases c39 : t108 = true
             ·subst c39
              have H1 : ((section_within.f a0_5 1).bind fun t109 => (if t109 = true then (some 0) else (some 1))) = some r := by rw [if_pos rfl] at H; exact H
              clear H
              have H := H1
              clear H1
              replace H := Option.bind_eq_some_iff.mp H
              obtain ⟨t109, A400, H⟩ := H
              replace H : (if t109 = true then (some 0) else (some 1)) = some r := H
              have A40 := Aside0.mk A400
              clear A400
              by_cases c41 : t109 = true
              ·subst c41
               have H1 : (some 0) = some r := by rw [if_pos rfl] at H; exact H
               clear H
               have H := H1
               clear H1
               obtain rfl := Option.some.inj H
               obtain ⟨hcz42_0, hcz42_1, hcz42_2, hcz42_3, hcz42_4, hcz42_5, hfz42_0, hfz42_1, hfz42_2, hfz42_3, hfz42_4, hfz42_5⟩ := cz6_ BK102.out
               go_wp2_with (first | (go_at_call 28; (with_reducible refine (section_within.calls a0_4 0 true _ A38.out).mono ?_); rintro e w' ⟨rfl, ⟨nd, rfl⟩⟩) | (go_at_call 28; (with_reducible refine (section_within.calls a0_5 1 true _ A40.out).mono ?_); rintro e w' ⟨rfl, ⟨nd, rfl⟩⟩))
               go_ret
               exact ⟨qw_, qb_ HB.out⟩
              ·replace c41 := Bool.eq_false_iff.mpr c41
               subst c41
               have H1 : (some 1) = some r := by rw [if_neg (show ¬ (false = true) by decide)] at H; exact H
               clear H
               have H := H1
               clear H1
               obtain rfl := Option.some.inj H
               obtain ⟨hcz43_0, hcz43_1, hcz43_2, hcz43_3, hcz43_4, hcz43_5, hfz43_0, hfz43_1, hfz43_2, hfz43_3, hfz43_4, hfz43_5⟩ := cz6_ BK102.out
               go_wp2_with (first | (go_at_call 28; (with_reducible refine (section_within.calls a0_4 0 true _ A38.out).mono ?_); rintro e w' ⟨rfl, ⟨nd, rfl⟩⟩) | (go_at_call 28; (with_reducible refine (section_within.calls a0_5 1 false _ A40.out).mono ?_); rintro e w' ⟨rfl, ⟨nd, rfl⟩⟩))
               go_ret
               exact ⟨qw_, qb_ HB.out⟩
             ·replace c39 := Bool.eq_false_iff.mpr c39
              subst c39
              have H1 : (some 1) = some r := by rw [if_neg (show ¬ (false = true) by decide)] at H; exact H
              clear H
              have H := H1
              clear H1
              obtain rfl := Option.some.inj H
              obtain ⟨hcz44_0, hcz44_1, hcz44_2, hcz44_3, hcz44_4, hcz44_5, hfz44_0, hfz44_1, hfz44_2, hfz44_3, hfz44_4, hfz44_5⟩ := cz6_ BK102.out
              go_wp2_with (first | (go_at_call 28; (with_reducible refine (section_within.calls a0_4 0 false _ A38.out).mono ?_); rintro e w' ⟨rfl, ⟨nd, rfl⟩⟩))
              go_ret
              exact ⟨qw_, qb_ HB.out⟩
            ·replace c37 := Bool.eq_false_iff.mpr c37
             subst c37
             have H1 : (some 1) = some r := by rw [if_neg (show ¬ (false = true) by decide)] at H; exact H
             clear H
             have H := H1
             clear H1
             obtain rfl := Option.some.inj H
             obtain ⟨hcz45_0, hcz45_1, hcz45_2, hcz45_3, hcz45_4, hcz45_5, hfz45_0, hfz45_1, hfz45_2, hfz45_3, hfz45_4, hfz45_5⟩ := cz6_ BK102.out
             go_wp2
             go_ret
             exact ⟨qw_, qb_ HB.out⟩
           ·replace c36 := Bool.eq_false_iff.mpr c36
            subst c36
            have H1 : (if x3_25 = true then (if a0_4 = 0 then (if a0_5 = 0 then (some 0) else (some 1)) else (some 1)) else (some 1)) = some r := by rw [if_neg (show ¬ (false = true) by decide)] at H; exact H
            clear H
            have H := H1
            clear H1
            by_cases c46 : x3_25 = true
            ·subst c46
             have H1 : (if a0_4 = 0 then (if a0_5 = 0 then (some 0) else (some 1)) else (some 1)) = some r := by rw [if_pos rfl] at H; exact H
             clear H
             have H := H1
             clear H1
             by_cases c47 : a0_4 = 0
             ·rw [if_pos c47] at H
              have c47b0 : (a0_4 == 0) = true := beq_iff_eq.mpr c47
              have c47b1 : (a0_4 != 0) = false := bne_eq_false_iff_eq.mpr c47
              clear c47
              by_cases c48 : a0_5 = 0
              ·rw [if_pos c48] at H
               have c48b0 : (a0_5 == 0) = true := beq_iff_eq.mpr c48
               have c48b1 : (a0_5 != 0) = false := bne_eq_false_iff_eq.mpr c48
               clear c48
               obtain rfl := Option.some.inj H
               obtain ⟨hcz49_0, hcz49_1, hcz49_2, hcz49_3, hcz49_4, hcz49_5, hfz49_0, hfz49_1, hfz49_2, hfz49_3, hfz49_4, hfz49_5⟩ := cz6_ BK102.out
               go_wp2
               go_ret
               exact ⟨qw_, qb_ HB.out⟩
              ·rw [if_neg c48] at H
               have c48b0 : (a0_5 == 0) = false := beq_eq_false_iff_ne.mpr c48
               have c48b1 : (a0_5 != 0) = true := bne_iff_ne.mpr c48
               obtain rfl := Option.some.inj H
               obtain ⟨hcz50_0, hcz50_1, hcz50_2, hcz50_3, hcz50_4, hcz50_5, hfz50_0, hfz50_1, hfz50_2, hfz50_3, hfz50_4, hfz50_5⟩ := cz6_ BK102.out
               go_wp2
               go_ret
               exact ⟨qw_, qb_ HB.out⟩
             ·rw [if_neg c47] at H
              have c47b0 : (a0_4 == 0) = false := beq_eq_false_iff_ne.mpr c47
              have c47b1 : (a0_4 != 0) = true := bne_iff_ne.mpr c47
              obtain rfl := Option.some.inj H
              obtain ⟨hcz51_0, hcz51_1, hcz51_2, hcz51_3, hcz51_4, hcz51_5, hfz51_0, hfz51_1, hfz51_2, hfz51_3, hfz51_4, hfz51_5⟩ := cz6_ BK102.out
              go_wp2
              go_ret
              exact ⟨qw_, qb_ HB.out⟩
            ·replace c46 := Bool.eq_false_iff.mpr c46
             subst c46
             have H1 : (some 1) = some r := by rw [if_neg (show ¬ (false = true) by decide)] at H; exact H
             clear H
             have H := H1
             clear H1
             obtain rfl := Option.some.inj H
             obtain ⟨hcz52_0, hcz52_1, hcz52_2, hcz52_3, hcz52_4, hcz52_5, hfz52_0, hfz52_1, hfz52_2, hfz52_3, hfz52_4, hfz52_5⟩ := cz6_ BK102.out
             go_wp2
             go_ret
             exact ⟨qw_, qb_ HB.out⟩

end Go.Proofs.YtbjbagocnnffaaaDoor.P
